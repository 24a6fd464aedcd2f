/- Parts of the proof of TopLines. -/
import Derived.Test.YtpjjgpjhpobkiaaGreatDoorMZ
import Derived.WalkLawsBesides
import Derived.WalkSpells
import Derived.Deep.Slices
import Derived.Deep.AppendLies
import Derived.Deep.RegionLaw
import Derived.Shelf.Bytes.SlSmallAll
import Derived.Test.YtpjjgpjhpobkiaaGreatDoorProg
import Derived.JoinedTies
import Derived.Deep.RegionHeld3
import Derived.RangeFuncRecord
import Derived.LoopNIn
import Derived.RecoverIn
set_option maxHeartbeats 4000000
namespace Go.Proofs.YtpjjgpjhpobkiaaGreatDoor
section
open Go.RowKit
theorem add_add (a:Addr)(i j:Nat):(a.add i).add j=a.add (i+j):=Go.Deep.add_add a i j
theorem add_block (a:Addr)(i:Nat):(a.add i).block=a.block:=by unfold Addr.add;split<;>rfl
theorem lt_of_cell {w:World}{a:Addr}{v:Value}(h:w.cell? a=some v):a.block < w.heap.size:=by
 rcases zP a.block w.heap.size with hlt|hge
 ·exact hlt
 ·unfold World.cell? at h;rw[xg hge] at h
  cases h
theorem Jc {w:World}{a:Addr}{v:Value}(h:w.cell? a=some v):a.spot=none:=by
 unfold World.cell? at h;split at h
 ·split at h
  ·cases h
  ·rename_i hs;simpa using hs
 ·cases h
def Rd (w:World)(p:Nat→Prop)(A:Option Addr)(xs:List Value):Prop:=
 xs≠[]→∃ad,A=some ad∧p ad.block∧∀j u,xs[j]? =some u→w.cell? (ad.add j)=some u
section
variable {w w':World} {p q:Nat→Prop} {A:Option Addr} {xs:List Value}
theorem Rd.nil (w:World)(p:Nat→Prop)(A:Option Addr):Rd w p A []:=fun h=>absurd rfl h
theorem Rd.at (h:Rd w p A xs){k:Nat}(hk:k < xs.length):∃ad,A=some ad∧p ad.block∧w.cell? (ad.add k)=some xs[k]:=by
 obtain⟨ad,h1,h2,h3⟩:=h (fun e=>by subst e;simp at hk)
 exact⟨ad,h1,h2,h3 k _ (zg hk)⟩
theorem Rd.ex (h:Rd w p A xs)(hx:xs≠[]):∃b o,A=some ⟨b,o,none⟩∧p b∧∀j u,xs[j]? =some u→w.cell? ⟨b,o+j,none⟩=some u:=by
 obtain⟨⟨b,o,s⟩,h1,h2,h3⟩:=h hx;have hc:=h3 0 _ (zg (yG.2 hx));have hs:s=none:=by simpa [Addr.add] using Jc hc
 subst hs;refine⟨b,o,h1,h2,fun j u hu=>?_⟩
 have:=h3 j u hu;unfold Addr.add at this;split at this
 ·rename_i h0;subst h0;exact this
 ·exact this
theorem Rd.mono (h:Rd w p A xs)(hpq:∀i,i < w.heap.size→p i→q i):Rd w q A xs:=fun hx=>by
 obtain⟨ad,h1,h2,h3⟩:=h hx;have hl:0 < xs.length:=yG.2 hx;have hc:=h3 0 _ (zg hl);have:=lt_of_cell hc;rw[add_block] at this;exact⟨ad,h1,hpq _ this h2,h3⟩
theorem Rd.keep (h:Rd w p A xs)(hk:∀i,i < w.heap.size→p i→w'.heap[i]? =w.heap[i]?):Rd w' p A xs:=fun hx=>by
 obtain⟨ad,h1,h2,h3⟩:=h hx;refine⟨ad,h1,h2,fun j u hu=>?_⟩
 have hc:=h3 j u hu;have hlt:=lt_of_cell hc;rw[add_block] at hlt;rw[yz (w:=w) (by rw[add_block];exact hk _ hlt h2)]
 exact hc
theorem Rd.jH (h:Rd w p A xs)(hpq:∀i,p i→q i):Rd w q A xs:=h.mono fun i _=>hpq i
theorem Rd.move (h:Rd w p A xs)(hk:∀i,i < w.heap.size→p i→q i∧w'.heap[i]? =w.heap[i]?):Rd w' q A xs:=
 (h.mono (q:=fun i=>p i∧q i) fun i h1 h2=>⟨h2,(hk i h1 h2).1⟩).keep (fun i h1 h2=>(hk i h1 h2.1).2) |>.jH fun _i h2=>h2.2
theorem Rd.below {B:Nat}(h:Rd w p A xs)(hb:Below B w w')(hp:∀i,i < w.heap.size→p i→i < B):Rd w' p A xs:=h.keep fun i h1 h2=>hb.block i (hp i h1 h2)
theorem Rd.after (h:Rd w p A xs)(hb:Below w.heap.size w w'):Rd w' p A xs:=h.keep fun i h1 _=>hb.block i h1
theorem Rd.grown {row:Option Nat}(h:Rd w p A xs)(hg:w.grownBy w' row)(hp:∀i,i < w.heap.size→p i→some i≠row):Rd w' p A xs:=h.keep fun i h1 h2=>hg.block i h1 (hp i h1 h2)
theorem Rd.drop (h:Rd w p A xs)(k:Nat):Rd w p (A.map (·.add k)) (xs.drop k):=fun hx=>by
 obtain⟨ad,rfl,h2,h3⟩:=h (fun e=>by subst e;simp at hx)
 exact⟨ad.add k,rfl,by rw[add_block];exact h2,fun j u hu=>by rw[add_add];exact h3 _ _ (by rw[← hu,yg])⟩
theorem Rd.take (h:Rd w p A xs)(k:Nat):Rd w p A (xs.take k):=fun hx=>by
 obtain⟨ad,h1,h2,h3⟩:=h (fun e=>by subst e;simp at hx)
 refine⟨ad,h1,h2,fun j u hu=>h3 j u ?_⟩
 rw[yj] at hu;split at hu
 ·exact hu
 ·cases hu
theorem Rd.jf {base n c:Nat}{e:TypeId}{size:Nat}(h:w.ownsRow base e size (.slice A n c) n xs)(hp:∀i,base≤i→i < w.heap.size→p i):Rd w p A xs:=fun hx=>by
 rcases h.2 with⟨_,h0⟩|⟨g,cap,cur,hv,hg,hh,_⟩
 ·have:=h.1;rw[h0] at this;exact absurd (yQ (by simpa using this)) hx
 ·injection hv with hA _ _
  subst hA
  have hlt:g < w.heap.size:=by
   rcases zP g w.heap.size with hlt|hge
   ·exact hlt
   ·rw[xg hge] at hh;cases hh
  exact⟨_,rfl,hp g hg hlt,h.cells (g:=g) rfl⟩
theorem Rd.new (w:World)(cs:Array Value)(t:TypeId)(hp:p w.heap.size):Rd (w.alloc (.cells cs t)) p (some ⟨w.heap.size,0,none⟩) cs.toList:=fun _=>
 ⟨_,rfl,hp,fun j u hu=>by
   have hb:(w.alloc (.cells cs t)).heap[w.heap.size]? =some (.cells cs t (0,0)):=yJ w _
   have e:(⟨w.heap.size,0,none⟩:Addr).add j=⟨w.heap.size,j,none⟩:=by
    unfold Addr.add;split
    ·rename_i h;subst h;rfl
    ·simp
   rw[e];simp only[World.cell?,hb]
   simpa using hu⟩
end
structure El (P:Program)(t e:TypeId)(z:Value)(size bytes:Nat):Prop where
 under:P.underlying t=some (.slice e)
 info:(P.info? e).map (fun i=>(i.zero,i.size,i.bytes))=some (some z,size,bytes)
 zs:z.cells.size=size
 pos:0 < size
section
variable {P:Program} {t e:TypeId} {z:Value} {size bytes:Nat}
theorem sQ (E:El P t e z size bytes)(w:World)(base:Nat)(ty:TypeId)(v:Value)(n:Nat)(xs:List Value)(hown:w.ownsRow base e size v n xs)
 (p:Nat→Prop) (A:Option Addr) (m c:Nat) (news:List Value) (hl:news.length=m * size) (hr:Rd w p A news) (h1:∀u∈news,u.oneCell'=true)
 (h63:n+m≤maxLen) (hbytes:(n+m) * bytes≤140737488355328) (hbase:base≤w.heap.size):
 ∃v' w',(Builtin.append_ #[t,t] ty #[v,.slice A m c]).run P w= .ok v' w'∧w'.ownsRow base e size v' (n+m) (xs++news)∧w.grownBy w' v.ownBlock∧
  (v'.ownBlock=v.ownBlock∨v'.ownBlock=some w.heap.size)∧(m=0→v'=v∧w'=w):=by
 obtain⟨i,hi,hz,hsz,hby⟩:=info_parts E.info;have amS:=E.pos;by_cases hm:m=0
 ·subst hm;have hn:news=[]:=yQ (by simpa using hl)
  subst hn;refine⟨v,w,?_,by simpa using hown,World.grownBy.refl w _,.inl rfl,fun _=>⟨rfl,rfl⟩⟩
  rcases A with _|ad
  ·rcases hown.2 with⟨rfl,rfl⟩|⟨g,cap,cur,rfl,_,_,hnc,_⟩
   ·simp[Builtin.append_,run_underlying E.under,sizeOf,typeInfo,hi,Builtin.lenOf,Builtin.firstCells]
   ·simp[Builtin.append_,run_underlying E.under,sizeOf,typeInfo,hi,Builtin.lenOf,Builtin.firstCells,hnc,storeCells]
  ·rcases hown.2 with⟨rfl,rfl⟩|⟨g,cap,cur,rfl,_,_,hnc,_⟩
   ·simp[Builtin.append_,run_underlying E.under,sizeOf,typeInfo,hi,Builtin.lenOf,Builtin.firstCells,loadCells,loadCellsFrom]
   ·simp[Builtin.append_,run_underlying E.under,sizeOf,typeInfo,hi,Builtin.lenOf,Builtin.firstCells,loadCells,loadCellsFrom,hnc,storeCells]
 ·have hx:news≠[]:=fun h=>by
   rw[h] at hl;have h0:m * size=0:=hl.symm;rcases Nat.mul_eq_zero.1 h0 with h2|h2<;>omega
  obtain⟨ad,rfl,_,hcells⟩:=hr hx;obtain⟨v',w',hrun,h2,h3,_,h5⟩:=run_append_own_at (P:=P) w base t ty e i z size bytes E.under hi hz hsz hby E.zs amS v n xs hown ad m c news hl hcells h1 h63 hbytes hbase;exact⟨v',w',hrun,h2,h3,h5,fun h=>absurd h hm⟩
theorem ag7 (E:El P t e z size bytes){w:World}{o:Oper}{a:Act}{K:Act→World→Prop}{Q:Exit→Act→World→Prop}(s x:Operand)
 (ho:o.op= .call { callee:=.builtin .append,args:=#[s,x],argTypes:=#[t,t]})
 (base:Nat) (v:Value) (n:Nat) (xs:List Value) (p:Nat→Prop) (A:Option Addr) (m c:Nat) (news:List Value) (hs:a.eval s=v) (hx:a.eval x= .slice A m c)
 (hown:w.ownsRow base e size v n xs) (hl:news.length=m * size) (hr:Rd w p A news) (h1:∀u∈news,u.oneCell'=true)
 (h63:n+m≤maxLen) (hbytes:(n+m) * bytes≤140737488355328) (hbase:base≤w.heap.size)
 (h:∀v' w',w'.ownsRow base e size v' (n+m) (xs++news)→w.grownBy w' v.ownBlock→(v'.ownBlock=v.ownBlock∨v'.ownBlock=some w.heap.size)→(m=0→v'=v∧w'=w)→K (a.put o.dst v') w'):o.wp P a w K Q:=by
 obtain⟨v',w',hrun,h2,h3,h4,h5⟩:=sQ E w base o.type v n xs hown p A m c news hl hr h1 h63 hbytes hbase;unfold Oper.wp execOp;simp only[ho,resolve,invoke,builtin,Sem.run_bind,Sem.run_pure,Result.andThen_ok,List.map_toArray,List.map_cons,List.map_nil,hs,hx,hrun];exact h v' w' h2 h3 h4 h5
theorem bu (E:El P t e z size bytes){w:World}{ops:Array Oper}{rest:List Oper}{o:Oper}{a:Act}{Q:Exit→Act→World→Prop}(hgd:o.guard=none)(s x:Operand)
 (ho:o.op= .call { callee:=.builtin .append,args:=#[s,x],argTypes:=#[t,t]})
 (base:Nat) (v:Value) (n:Nat) (xs:List Value) (p:Nat→Prop) (A:Option Addr) (m c:Nat) (news:List Value) (hs:a.eval s=v) (hx:a.eval x= .slice A m c)
 (hown:w.ownsRow base e size v n xs) (hl:news.length=m * size) (hr:Rd w p A news) (h1:∀u∈news,u.oneCell'=true)
 (h63:n+m≤maxLen) (hbytes:(n+m) * bytes≤140737488355328) (hbase:base≤w.heap.size)
 (h:∀v' w',w'.ownsRow base e size v' (n+m) (xs++news)→w.grownBy w' v.ownBlock→(v'.ownBlock=v.ownBlock∨v'.ownBlock=some w.heap.size)→(m=0→v'=v∧w'=w)→wpList P ops Q rest (a.put o.dst v') w'):wpList P ops Q (o::rest) a w:=
 wpList_plain hgd fun _ hK=>ag7 E s x ho base v n xs p A m c news hs hx hown hl hr h1 h63 hbytes hbase fun v' w' h2 h3 h4 h5=>hK _ _ (h v' w' h2 h3 h4 h5)
end
section
variable {P:Program} {t e:TypeId} {z:Value} {size bytes:Nat}
theorem El.sizeOf (E:El P t e z size bytes)(w:World):(Go.sizeOf e).run P w= .ok size w:=by
 obtain⟨i,hi,_,hsz,_⟩:=info_parts E.info;simp[Go.sizeOf,typeInfo,hi,hsz]
theorem abj (P:Program)(w:World)(a y:Nat)(code:BoundsCode)(h:a≤y):(Instr.sliceBound (.int .i64 (a:Int)) y code).run P w= .ok a w:=by
 have c1:(0:Int)≤(a:Int)∧(a:Int)≤(y:Int):=⟨zy,zy⟩;simp only[Instr.sliceBound,asIntOf,Sem.run_bind,Sem.run_pure,Result.andThen_ok,if_pos c1,Int.toNat_natCast]
def cutAt (A:Option Addr)(c k size:Nat):Option Addr:=if c=k then A else A.map (·.add (k * size))
theorem sP (E:El P t e z size bytes)(A:Option Addr)(n c k:Nat)(w:World)(hk:k≤n):
 (Instr.slice t (.slice A n c) (some (.int .i64 (k:Int))) none none).run P w= .ok (.slice (cutAt A c k size) (n - k) (c - k)) w:=by
 simp[Instr.slice,run_underlying E.under,Instr.sliceBounds,abj P w k _ _ hk,E.sizeOf,cutAt]
theorem Rd.cut {w:World}{p:Nat→Prop}{A:Option Addr}{xs:List Value}{n c k:Nat}(h:Rd w p A xs)(hl:xs.length=n * size)(hn:n≤c):Rd w p (cutAt A c k size) (xs.drop (k * size)):=by
 unfold cutAt;split
 ·rename_i hc;have:xs.drop (k * size)=[]:=yL (by rw[hl];exact wM _ zy)
  rw[this];exact Rd.nil _ _ _
 ·exact h.drop _
end
theorem bg {w:World}{base n:Nat}{e:TypeId}{size:Nat}{v:Value}{xs:List Value}(h:w.ownsRow base e size v n xs):∃A c,v= .slice A n c∧n≤c∧(A=none→c=0):=by
 rcases h.2 with⟨h1,h2⟩|⟨g,cap,cur,hv,_,_,hc,_⟩
 ·exact⟨none,0,by rw[h1,h2],zy,fun _=>rfl⟩
 ·exact⟨_,cap,hv,hc,fun h=>by cases h⟩
theorem own_below {w w':World}{base n B:Nat}{e:TypeId}{size:Nat}{v:Value}{xs:List Value}(h:w.ownsRow base e size v n xs)(hb:Below B w w')(hB:w.heap.size≤B):w'.ownsRow base e size v n xs:=
 h.kept (row:=none) ⟨hb.os,hb.tape,hb.output,hb.size,fun i hi _=>hb.block i zy⟩ (by cases v.ownBlock with
   |none=>exact .inl rfl
   |some k=>exact .inr (fun h=>by cases h))
theorem mr {w w':World}{base n:Nat}{e:TypeId}{size:Nat}{v:Value}{xs:List Value}(h:w.ownsRow base e size v n xs)(hb:Below w.heap.size w w'):w'.ownsRow base e size v n xs:=own_below h hb (zn _)
def bs (l:List UInt8):List Value:=l.map fun c=>.int .u8 (c.toNat:Int)
theorem aQ (l:List UInt8):(bs l).length=l.length:=by simp[bs]
theorem Iw (l l':List UInt8):bs (l++l')=bs l++bs l':=by simp[bs]
theorem Fa (l:List UInt8):∀u∈bs l,u.oneCell'=true:=by
 intro u hu;simp only[bs,List.mem_map] at hu;obtain⟨c,_,rfl⟩:=hu;rfl
theorem Fb (l:List UInt8)(k:Nat)(hk:k < (bs l).length):(bs l)[k]= .int .u8 ((l[k]'(by rw[aQ] at hk;exact hk)).toNat:Int):=by simp[bs]
theorem Rd.byte {w:World}{p:Nat→Prop}{A:Option Addr}{l:List UInt8}(h:Rd w p A (bs l)){k:Nat}(hk:k < l.length):
 ∃b o,A=some ⟨b,o,none⟩∧p b∧w.cell? ⟨b,o+k,none⟩=some (.int .u8 (l[k].toNat:Int)):=by
 have hx:k < (bs l).length:=by rw[aQ];exact hk
 obtain⟨b,o,h1,h2,h3⟩:=h.ex (fun e=>by rw[e] at hx;simp at hx)
 exact⟨b,o,h1,h2,by rw[← Fb l k hx];exact h3 k _ (zg hx)⟩
theorem Rd.same {w:World}{p:Nat→Prop}{A:Option Addr}{l l':List UInt8}(h:Rd w p A (bs l))(h':Rd w p A (bs l'))(hl:l.length=l'.length):l=l':=by
 apply List.ext_getElem hl;intro k h1 h2;obtain⟨b,o,rfl,_,hc⟩:=h.byte h1;obtain⟨b',o',e,_,hc'⟩:=h'.byte h2;injection e with e
 injection e with e1 e2
 subst e1;subst e2;rw[hc] at hc';have:(l[k].toNat:Int)=l'[k].toNat:=by simpa using hc'
 exact xM.1 zy
theorem iA {k:IntKind}{a b:Int}(h:a=b):Ending.returned (.int k a)= .returned (.int k b):=by rw[h]
theorem dz {x y:Bool}(h:x=y):Ending.returned (.bool x)= .returned (.bool y):=by rw[h]
theorem grownBy_set (w:World)(b k:Nat)(u:Value):w.grownBy (w.setCell ⟨b,k,none⟩ u) (some b):=
 ⟨rfl,rfl,rfl,by simp[World.setCell],fun i hi hne=>zG w _ u i (fun e=>hne (by rw[e]))⟩
theorem grownBy_trans {a b c:World}{row:Option Nat}(h:a.grownBy b row)(k:b.grownBy c row):a.grownBy c row:=
 ⟨k.os.trans h.os,k.tape.trans h.tape,k.output.trans h.output,zV h.size k.size,fun i hi hne=>(k.block i (zZ hi h.size) hne).trans (h.block i hi hne)⟩
theorem grownBy_drew {a b:World}{row:Option Nat}(h:a.grownBy b row):a.grownBy b.drew row:=⟨h.os,h.tape,h.output,h.size,h.block⟩
theorem ak {a b:World}{row:Option Nat}(h:a.grownBy b row)(m:Nat):a.grownBy (b.drewN m) row:=⟨h.os,h.tape,h.output,h.size,h.block⟩
theorem grownBy_below {a b:World}(h:Below a.heap.size a b)(row:Option Nat):a.grownBy b row:=⟨h.os,h.tape,h.output,h.size,fun i hi _=>h.block i hi⟩
theorem below_drewN {B:Nat}{a w:World}(h:Below B a w)(n:Nat):Below B a (w.drewN n):=⟨h.os,h.tape,h.output,h.size,h.block⟩
theorem pW (B:Nat)(w:World)(n:Nat):Below B w (w.drewN n):=below_drewN (zh _ _) n
def Buf (w:World)(g:Nat)(l:List UInt8):Prop:=∀k (h:k < l.length),w.cell? ⟨g,k,none⟩=some (.int .u8 (l[k].toNat:Int))∧w.frozen? ⟨g,k,none⟩=false
section
variable {w w':World} {g:Nat} {l:List UInt8}
theorem Buf.keep (h:Buf w g l)(hb:w'.heap[g]? =w.heap[g]?):Buf w' g l:=fun k hk=>
 ⟨(yz (w:=w) (a:=⟨g,k,none⟩) hb).trans (h k hk).1,(World.frozen?_of_block (w:=w) hb).trans (h k hk).2⟩
theorem Buf.drewN (h:Buf w g l)(n:Nat):Buf (w.drewN n) g l:=h.keep rfl
theorem Buf.set (h:Buf w g l){k:Nat}(hk:k < l.length)(y:UInt8):Buf (w.setCell ⟨g,k,none⟩ (.int .u8 (y.toNat:Int))) g (l.set k y):=fun j hj=>by
 have hj2:j < l.length:=by simpa using hj
 refine⟨?_,by rw[World.frozen?_setCell];exact (h j hj2).2⟩
 by_cases e:k=j
 ·subst e;rw[vU];exact World.cell?_setCell_same _ _ _ (h k hk).1
 ·rw[List.getElem_set_ne e,World.cell?_setCell_other _ _ _ _ (fun e2=>e (by injection e2))]
  exact (h j hj2).1
theorem Buf.rd (h:Buf w g l):Rd w (fun q=>q=g) (some ⟨g,0,none⟩) (bs l):=fun _=>by
 refine⟨_,rfl,rfl,fun j u hu=>?_⟩
 obtain⟨hj,hv⟩:=zf.1 hu;rw[Fb] at hv;rw[Go.Addr.add_lit,← hv,yD];exact (h j (by simpa [aQ] using hj)).1
end
theorem afk (w:World)(e:TypeId)(s:ByteArray):
 Buf (w.drew.alloc (.cells (bytesRow s (grownCap w s.size 0 e)) e ((bytesRow s (grownCap w s.size 0 e)).size,(bytesRow s (grownCap w s.size 0 e)).size+1))) w.heap.size s.data.toList:=fun k hk=>by
 obtain⟨C,hC⟩:∃C,bytesRow s (grownCap w s.size 0 e)=C:=⟨_,rfl⟩;rw[hC];have hb:(w.drew.alloc (.cells C e (C.size,C.size+1))).heap[w.heap.size]? =some (.cells C e (C.size,C.size+1)):=yJ w.drew _;have hk2:k < s.data.size:=by simpa using hk
 have hk3:k < s.size:=hk2
 have hlt:k < C.size:=by
  have e2:s.size=s.data.size:=rfl;rw[← hC];simp[bytesRow];omega
 refine⟨?_,?_⟩
 ·unfold World.cell?;simp only[hb];rw[← hC];simp[bytesRow,Array.getElem?_append,hk3]
 ·unfold World.frozen?;simp only[hb];simp;omega
section
variable {P:Program} {w:World} {ops:Array Oper} {rest:List Oper} {o:Oper} {a:Act} {Q:Exit→Act→World→Prop}
theorem CZ (hgd:o.guard=none)(src dst e:TypeId)(hs:P.underlying src=some .string)(hd:P.underlying dst=some (.slice e))(he:P.underlying e=some (.int .u8))
 (x:Operand) (ho:o.op= .convert src dst x) (s:ByteArray) (hx:a.eval x= .string s)
 (h:∀cap w',s.size≤cap→Buf w' w.heap.size s.data.toList→Below w.heap.size w w'→w.heap.size < w'.heap.size→wpList P ops Q rest (a.put o.dst (.slice (some ⟨w.heap.size,0,none⟩) s.size cap)) w'):
 wpList P ops Q (o::rest) a w:=
 wpList_plain hgd fun _ hK=>by
  unfold Oper.wp execOp;simp only[ho,hx,run_bytes_of_string w src dst e s hs hd he,Sem.run_bind,Sem.run_pure,Result.andThen_ok];exact hK _ _ (h _ _ (grownCap_ge w s.size 0 e) (afk w e s) ((zh _ _).drew.alloc (zn _) _) zw)
theorem Mg (src dst e:TypeId)(hs:P.underlying src=some (.slice e))(hd:P.underlying dst=some .string)(he:P.underlying e=some (.int .u8))(A:Option Addr)(cap:Nat)(l:List UInt8)(p:Nat→Prop)(hr:Rd w p A (bs l)):
 (convert src dst (.slice A l.length cap)).run P w= .ok (.string ⟨l.toArray⟩) w:=by
 by_cases hl:l=[]
 ·subst hl
  cases A with
  |none=>simp[convert,run_underlying hs,run_underlying he,run_underlying hd,Conv.bytesToString];rfl
  |some ad=>exact run_convert_bytes_back w src dst e ad cap [] hs he hd (fun j hj=>absurd hj (yf _))
 ·obtain⟨ad,rfl,_,hc⟩:=hr (fun e=>hl (yQ (by rw[← aQ,e];rfl)))
  refine run_convert_bytes_back w src dst e ad cap l hs he hd (fun j hj=>?_)
  have hj2:j < (bs l).length:=by rw[aQ];exact hj
  rw[hc j _ (zg hj2),Fb]
theorem oH (hgd:o.guard=none)(src dst e:TypeId)(hs:P.underlying src=some (.slice e))(hd:P.underlying dst=some .string)(he:P.underlying e=some (.int .u8))
 (x:Operand) (ho:o.op= .convert src dst x) (A:Option Addr) (cap:Nat) (l:List UInt8) (n:Nat) (p:Nat→Prop) (hx:a.eval x= .slice A n cap) (hn:n=l.length) (hr:Rd w p A (bs l))
 (h:wpList P ops Q rest (a.put o.dst (.string ⟨l.toArray⟩)) w):
 wpList P ops Q (o::rest) a w:=
 wpList_plain hgd fun _ hK=>by
  subst hn;unfold Oper.wp execOp;simp only[ho,hx,Mg src dst e hs hd he A cap l p hr,Sem.run_bind,Sem.run_pure,Result.andThen_ok];exact hK _ _ h
end
theorem dV {w:World}{b:Nat}{o:Obj}(h:w.heap[b]? =some o):b < w.heap.size:=by
 rcases zP b w.heap.size with h'|h'
 ·exact h'
 ·simp[Array.getElem?_eq_none h'] at h
theorem own_ne {w:World}{B g n:Nat}{e t:TypeId}{size:Nat}{v:Value}{xs:List Value}{c:Array Value}{f:Nat×Nat}(h:w.ownsRow B e size v n xs)(hb:w.heap[g]? =some (.cells c t f))(ht:t≠e):some g≠v.ownBlock:=fun e2=>by
 obtain⟨_,hr⟩:=h;rcases hr with⟨hv,_⟩|⟨g',cap,cur,hv,_,hb2,_⟩
 ·rw[hv] at e2;cases e2
 ·rw[hv] at e2;obtain rfl:g=g':=zq e2;rw[hb] at hb2;injection hb2 with hb2
  injection hb2 with _ hb2
  exact ht hb2
theorem bF (s:ByteArray):s.data.toList.length=s.size:=zw
theorem rE (s:ByteArray){k:Nat}(h:k < s.size):∃c:UInt8,s[k]=c∧s.data.toList[k]? =some c:=⟨s[k],rfl,by
 rw[zg (by rw[bF];exact h)]
 rfl⟩
theorem ql (s:ByteArray):s.toList.isEmpty=decide (s.data.toList=[]):=by
 rw[xH]
 cases s.data.toList<;>simp
theorem take_at {α:Type}{l:List α}{k:Nat}{c:α}(h:l[k]? =some c):l.take (k+1)=l.take k++[c]:=by
 rw[xh,h];rfl
theorem M4 {α:Type}{l:List α}{k:Nat}{c:α}(h:l[k]? =some c):k < l.length:=(zf.1 h).1
abbrev aG:=Int×Int×Int
def Ll (o:aG):List Value:=[.int .i64 o.1,.int .i64 o.2.1,.int .i64 o.2.2]
def dD (l:List aG):List Value:=l.flatMap Ll
theorem kv (o:aG)(l:List aG):dD (o::l)= .int .i64 o.1:: .int .i64 o.2.1:: .int .i64 o.2.2::dD l:=rfl
theorem nE:∀l:List aG,(dD l).length=l.length * 3
 |[]=>rfl
 |o::l=>by rw[kv];simp only[List.length_cons,nE l];omega
theorem DJ:∀(k:Nat) (l:List aG),(dD l).drop (k * 3)=dD (l.drop k)
 |0,l=>by simp
 |k+1,[]=>by simp[dD]
 |k+1,o::l=>by
  rw[kv,show (k+1) * 3=k * 3+1+1+1 by omega]
  simp only[List.drop_succ_cons];exact DJ k l
theorem Rd.o3 {w:World}{p:Nat→Prop}{A:Option Addr}{l:List aG}(h:Rd w p A (dD l)){k:Nat}{o:aG}(hk:l[k]? =some o):
 ∃b off,A=some ⟨b,off,none⟩∧p b∧w.cell? ⟨b,off+k * 3,none⟩=some (.int .i64 o.1)∧w.cell? ⟨b,off+k * 3+1,none⟩=some (.int .i64 o.2.1)∧w.cell? ⟨b,off+k * 3+2,none⟩=some (.int .i64 o.2.2):=by
 have hlt:k < l.length:=(zf.1 hk).1
 have hd:(dD l).drop (k * 3)=Ll o++dD (l.drop (k+1)):=by
  rw[DJ,zK hlt,(xw hlt).2 hk];rfl
 have hne:dD l≠[]:=fun e=>by rw[e] at hd;simp[Ll] at hd
 obtain⟨b,off,hA,hp,hc⟩:=h.ex hne
 have key:∀j u,(Ll o)[j]? =some u→w.cell? ⟨b,off+k * 3+j,none⟩=some u:=fun j u hj=>by
  have:(dD l)[k * 3+j]? =some u:=by
   rw[← yg,hd,xz (zf.1 hj).1];exact hj
  rw[wz];exact hc _ _ this
 exact⟨b,off,hA,hp,key 0 _ rfl,key 1 _ rfl,key 2 _ rfl⟩
theorem adJ (A A':Option Addr)(n n' c c':Nat)(w:World)(hn:n≠n'):
 Calls Tryz.prog 171 #[.slice A n c,.slice A' n' c'] w fun e w'=>e= .returned (.bool false)∧w=w':=by
 have h:(((n:Nat):Int) != (n':Int))=true:=by simp;omega
 clear hn;go_enter Tryz.func171,Tryz.ntmps171;go_wp2;go_ret;exact⟨rfl,rfl⟩
theorem QE {α:Type}{l l':List α}(hl:l.length=l'.length){k:Nat}(h:∀j,j < k→l[j]? =l'[j]?)(hk:l.length≤k):l=l':=by
 apply xR;intro j;by_cases hj:j < k
 ·exact h j hj
 ·rw[yo zy,yo zy]
theorem YK (A A':Option Addr)(l l':List aG)(c c':Nat)(w:World)(p p':Nat→Prop)(hl:l.length=l'.length)(hm:(l.length:Int)≤140737488355328)
 (h:Rd w p A (dD l)) (h':Rd w p' A' (dD l')):
 Calls Tryz.prog 171 #[.slice A l.length c,.slice A' l.length c'] w fun e w'=>e= .returned (.bool (decide (l=l')))∧∃m,w'=w.drewN m:=by
 obtain⟨n,hn⟩:∃n,l.length=n:=⟨_,rfl⟩;have Hn:=zo hn;have Hl:=zo hl;rw[hn] at hm;rw[hn];clear hn hl;have h0:(((n:Nat):Int) != (n:Int))=false:=zw;go_enter Tryz.func171,Tryz.ntmps171;go_wp2
 go_loopw [5,13] (fun _ v wr=>∃k:Nat,k≤n∧v= .int .i64 k∧Hid (∀j,j < k→l[j]? =l'[j]?)∧∃m,wr=w.drewN m) (fun _ v _=>n - (intOf v).toNat)
 case atStart=>exact⟨0,zF _,rfl,fun j hj=>absurd hj (yf _),0,rfl⟩
 case round=>
  obtain⟨k,hk,rfl,hr,m,rfl⟩:=hrel;by_cases hlt:k < n
  ·have hk1:k < l.length:=by rw[Hn.out];exact hlt
   have hk2:k < l'.length:=by rw[← Hl.out];exact hk1
   have e1:=zg hk1;have e2:=zg hk2;obtain⟨x,hx⟩:∃x,l[k]=x:=⟨_,rfl⟩;obtain⟨y,hy⟩:∃y,l'[k]=y:=⟨_,rfl⟩;rw[hx] at e1;rw[hy] at e2;obtain⟨b,o,rfl,_,c0,c1,c2⟩:=h.o3 e1;obtain⟨b',o',rfl,_,d0,d1,d2⟩:=h'.o3 e2;clear h h' hx hy;obtain⟨x0,x1,x2⟩:=x;obtain⟨y0,y1,y2⟩:=y;have E1:=zo e1;have E2:=zo e2;clear e1 e2;by_cases he:(x0,x1,x2)=(y0,y1,y2)
   ·obtain⟨rfl,rfl,rfl⟩:x0=y0∧x1=y1∧x2=y2:=by simpa using he
    have f0:(x0 == x0)=true:=beq_self_eq_true _;have f1:(x1 == x1)=true:=beq_self_eq_true _;have f2:(x2 == x2)=true:=beq_self_eq_true _
    have hr2:Hid (∀j,j < k+1→l[j]? =l'[j]?):=fun j hj=>by
     by_cases hjk:j=k
     ·subst hjk;rw[E1.out,E2.out]
     ·exact hr.out j zy
    clear hr he;go_wp2
    go_region
    all_goals go_wp2
    all_goals go_roundw
    case rel=>exact⟨k+1,zy,by go_num,hr2,_,rfl⟩
    case measure=>simp[intOf];omega
   ·have hd:Hid (decide (l=l')=false):=by
     simp only[Hid,decide_eq_false_iff_not];intro e;subst e;exact he (zq (E1.symm.trans E2.out))
    have F:((x0 == y0)=false)∨((x0 == y0)=true∧(x1 == y1)=false)∨((x0 == y0)=true∧(x1 == y1)=true∧(x2 == y2)=false):=by
     cases h1:(x0 == y0)
     ·exact .inl rfl
     ·cases h2:(x1 == y1)
      ·exact .inr (.inl ⟨rfl,rfl⟩)
      ·cases h3:(x2 == y2)
       ·exact .inr (.inr ⟨rfl,rfl,rfl⟩)
       ·exact (he (by simp at h1 h2 h3;simp[h1,h2,h3])).elim
    clear hr he;rcases F with f0|⟨f0,f1⟩|⟨f0,f1,f2⟩
    all_goals
     go_wp2
     go_region
     all_goals go_wp2
     all_goals go_ret
     all_goals exact⟨dz hd.symm,_,rfl⟩
  ·go_wp2;go_ret;exact⟨dz (by rw[QE Hl.out hr.out (by rw[Hn.out];omega)];simp),_,rfl⟩
theorem adK (A A':Option Addr)(l l':List aG)(n n' c c':Nat)(w:World)(p p':Nat→Prop)(hn:l.length=n)(hn':l'.length=n')(hm:(n:Int)≤140737488355328)(h:Rd w p A (dD l))(h':Rd w p' A' (dD l')):
 Calls Tryz.prog 171 #[.slice A n c,.slice A' n' c'] w fun e w'=>e= .returned (.bool (decide (l=l')))∧Below w.heap.size w w':=by
 subst hn;subst hn';by_cases hl:l.length=l'.length
 ·rw[← hl];refine (YK A A' l l' c c' w p p' hl hm h h').mono fun e w' ⟨h1,m,h2⟩=>⟨h1,by rw[h2];exact pW _ _ _⟩
 ·refine (adJ A A' _ _ c c' w hl).mono fun e w' ⟨he,hw⟩=>⟨?_,by rw[← hw];exact zh _ _⟩
  rw[he];refine dz ?_;symm;rw[decide_eq_false_iff_not];intro e;exact hl (by rw[e])
theorem Hy (s s':ByteArray)(A A':Option Addr)(l l':List aG)(n n' c c':Nat)(w:World)(p p':Nat→Prop)(hn:l.length=n)(hn':l'.length=n')(hm:(n:Int)≤140737488355328)(h:Rd w p A (dD l))(h':Rd w p' A' (dD l')):
 Calls Tryz.prog 184 #[.agg #[.string s,.slice A n c],.agg #[.string s',.slice A' n' c']] w fun e w'=>e= .returned (.bool (decide (s=s'∧l=l')))∧Below w.heap.size w w':=by
 have C:Hid (∀W,Below w.heap.size w W→Calls Tryz.prog 171 #[.slice A n c,.slice A' n' c'] W fun e w'=>e= .returned (.bool (decide (l=l')))∧Below W.heap.size W w'):=fun W hb=>adK A A' l l' n n' c c' W p p' hn hn' hm (h.after hb) (h'.after hb)
 have HA:Hid (Below w.heap.size w ((w.alloc (.cells #[.string s,.slice A n c] 28)).alloc (.cells #[.string s',.slice A' n' c'] 28))):=((zh _ _).alloc (zn _) _).alloc zw _;clear h h' hn hn' hm;by_cases hs:s=s'
 ·subst hs;have e1:(s.toList == s.toList)=true:=beq_self_eq_true _;go_enter Tryz.func184,Tryz.ntmps184
  go_wp2_with (go_at_call 171;refine (C.out _ HA.out).mono ?_;rintro e w1 ⟨rfl,hb⟩;have HB:=zo (HA.trans (hb.mono HA.size));clear hb)
  go_ret;exact⟨zw,HB.out⟩
 ·have e1:(s.toList == s'.toList)=false:=by
   simp only[beq_eq_false_iff_ne];intro e;rw[xH,xH] at e;exact hs (xn (yE e))
  have e2:Hid (decide (s=s'∧l=l')=false):=by simp[Hid,hs]
  clear hs;go_enter Tryz.func184,Tryz.ntmps184;go_wp2;go_ret;exact⟨dz e2.symm,HA.out⟩
def gQ (c:UInt8):UInt8:=if 97≤c.toNat∧c.toNat≤122 then c - 32 else c
theorem acP {c:UInt8}(h0:97≤(c.toNat:Int))(h1:(c.toNat:Int)≤122):((gQ c).toNat:Int)=(c.toNat:Int) - 97+65:=by
 unfold gQ;rw[zW ⟨zy,zy⟩,UInt8.toNat_sub_of_le _ _ (UInt8.le_iff_toNat_le.2 zu)];simp;omega
theorem ahf {c:UInt8}(h:¬(97≤(c.toNat:Int)∧(c.toNat:Int)≤122)):gQ c=c:=by
 unfold gQ;rw[za zy]
def upTo (l:List UInt8)(k:Nat):List UInt8:=(l.take k).map gQ++l.drop k
theorem Ug (l:List UInt8):upTo l 0=l:=by simp[upTo]
theorem Xk {w:World}{g:Nat}{l:List UInt8}(h:Buf w g l):Hid (Buf w g (upTo l 0)):=by
 rw[Ug];exact h
theorem Xl (l:List UInt8){k:Nat}(h:l.length≤k):upTo l k=l.map gQ:=by simp[upTo,List.take_of_length_le h,List.drop_eq_nil_of_le h]
theorem oK (l:List UInt8)(k:Nat):(upTo l k).length=l.length:=by simp[upTo];omega
theorem Rw (l:List UInt8){k:Nat}(h:k < l.length):(upTo l k)[k]'(by rw[oK];exact h)=l[k]:=by
 have e:(upTo l k)[k]? =some l[k]:=by
  unfold upTo;rw[yR zu];simp[Nat.min_eq_left (Nat.le_of_lt h),h]
 exact (xw _).2 e
theorem LH (l:List UInt8){k:Nat}(h:k < l.length):(upTo l k).set k (gQ l[k])=upTo l (k+1):=by
 unfold upTo;rw[vV _ _ zu,List.take_succ_eq_append_getElem h,yu,zK h];have e:k - (List.map gQ (List.take k l)).length=0:=by simp;omega
 rw[e,List.set_cons_zero];simp
theorem Uh (l:List UInt8){k:Nat}(h:k < l.length)(e:gQ l[k]=l[k]):upTo l k=upTo l (k+1):=by
 rw[← LH l h,e];have:=Rw l h;rw[← this,List.set_getElem_self]
theorem Buf.up {w:World}{g k:Nat}{l:List UInt8}(h:Buf w g (upTo l k))(hk:k < l.length):w.cell? ⟨g,k,none⟩=some (.int .u8 (l[k].toNat:Int))∧w.frozen? ⟨g,k,none⟩=false:=by
 have:=h k (by rw[oK];exact hk)
 rw[Rw l hk] at this;exact this
theorem Buf.put {w:World}{g k:Nat}{l:List UInt8}(h:Buf w g (upTo l k))(hk:k < l.length){z:Int}(hz:((gQ l[k]).toNat:Int)=z):Buf (w.setCell ⟨g,k,none⟩ (.int .u8 z)) g (upTo l (k+1)):=by
 rw[← hz,← LH l hk];exact h.set (by rw[oK];exact hk) _
theorem jU (s:ByteArray)(w:World)(hs:s.size≤maxLen):
 Calls Tryz.prog 45 #[.string s] w fun e w'=>e= .returned (.string ⟨(s.data.toList.map gQ).toArray⟩)∧Below w.heap.size w w':=by
 unfold maxLen at hs;obtain⟨l,hl⟩:∃l,s.data.toList=l:=⟨_,rfl⟩;obtain⟨n,hn⟩:∃n,s.size=n:=⟨_,rfl⟩;have HL:Hid (l.length=n):=by rw[Hid,← hl,← hn];exact bF s
 rw[hn] at hs;have hsn:(n:Int)≤9223372036854775807:=zy;have HT:Hid (s.data.toList=l):=hl;have HN:=zo hn;rw[hl];clear hl hn hs;go_enter Tryz.func45,Tryz.ntmps45
 go_wp2_with (refine CZ rfl 9 22 5 Tryz.underlying9 Tryz.underlying22 Tryz.underlying5 (.tmp 6) rfl s rfl ?_;intro cap w1 hcap hb hB hlt;rw[HT.out] at hb;rw[HN.out] at hcap ⊢;have H1:=zo hb;have HB:=zo hB;have HC:=zo hcap;clear hb hB hcap hlt)
 go_loopw [10] (fun v W=>∃k:Nat,k≤n∧v= .int .i64 k∧Hid (Buf W w.heap.size (upTo l k))∧Hid (Below w.heap.size w W)) (fun v _=>n - (intOf v).toNat)
 case atStart=>exact⟨0,zF _,rfl,Xk H1.out,HB.out⟩
 case round=>
  obtain⟨k,hk,rfl,hP,hQ⟩:=hrel;by_cases hlt:k < n
  ·have hkl:k < l.length:=by rw[HL.out];exact hlt
   have hc:=(hP.up hkl).1;have hf:=(hP.up hkl).2;by_cases hy:97≤(l[k].toNat:Int)∧(l[k].toNat:Int)≤122
   ·have HU:=zo (acP hy.1 hy.2);obtain⟨y,hyy⟩:∃y:Int,(l[k].toNat:Int)=y:=⟨_,rfl⟩;have HY:=zo hyy;rw[hyy] at hc hy;obtain⟨hy0,hy1⟩:=hy;clear hyy;go_wp2;go_roundw
    case rel=>exact⟨k+1,zy,by go_num,hP.put hkl (by rw[HU.out,HY.out]),hQ.setCell (p:=⟨w.heap.size,k,none⟩) (zn _) _⟩
    case measure=>simp[intOf];omega
   ·have HU:=zo (ahf hy);have hor:(l[k].toNat:Int) < 97∨122 < (l[k].toNat:Int):=zy;obtain⟨y,hyy⟩:∃y:Int,(l[k].toNat:Int)=y:=⟨_,rfl⟩;rw[hyy] at hc hor;clear hyy hy;rcases hor with h1|h1
    all_goals
     go_wp2;go_roundw
     case rel=>exact⟨k+1,zy,by go_num,by rw[← Uh l hkl HU.out];exact hP.out,hQ.out⟩
     case measure=>simp[intOf];omega
  ·have HE:Hid (Rd wr (fun q=>q=w.heap.size) (some ⟨w.heap.size,0,none⟩) (bs (l.map gQ))):=by
    have:=hP.rd;rw[Xl l (by have:=HL.out;omega)] at this
    exact this
   go_wp2_with (refine oH rfl 22 9 5 Tryz.underlying22 Tryz.underlying9 Tryz.underlying5 (.tmp 28) rfl _ cap (l.map gQ) n _ rfl (by rw[zI];exact HL.symm) HE.out ?_)
   go_ret;exact⟨rfl,hQ.out⟩
theorem AZ:El Tryz.prog 26 174 (.agg #[.int .i64 0,.int .i64 0,.int .i64 0]) 3 24:=⟨Tryz.underlying26,zz,rfl,zx⟩
theorem adO {l:List aG}{u:Value}(h:u∈dD l):∃x,u= .int .i64 x:=by
 induction l with
 |nil=>cases h
 |cons o l ih=>
  rw[kv] at h;simp only[List.mem_cons] at h;rcases h with rfl|rfl|rfl|h
  ·exact⟨_,rfl⟩
  ·exact⟨_,rfl⟩
  ·exact⟨_,rfl⟩
  ·exact ih h
theorem adN (l:List aG):∀u∈dD l,u.oneCell'=true:=fun u hu=>by
 obtain⟨x,rfl⟩:=adO hu;rfl
theorem DI (A:Option Addr)(l:List aG)(n c:Nat)(w:World)(p:Nat→Prop)(hn:n=l.length)(hm:l.length≤1000)(h:Rd w p A (dD l)):
 Calls Tryz.prog 102 #[.slice A n c] w fun e w'=>∃v,e= .returned v∧w'.ownsRow w.heap.size 174 3 v l.length (dD l)∧Below w.heap.size w w':=by
 subst hn;rcases A with _|ad
 ·have hl:l=[]:=by
   apply xy;intro hx
   obtain⟨_,e,_⟩:=h (by
    cases l with
    |nil=>exact absurd rfl hx
    |cons o l=>simp[kv])
   cases e
  subst hl;have hnil:=fun w=>Lib.run_eql_slice_nil (P:=Tryz.prog) w 26 174 none 0 c 0 0 Tryz.underlying26
  go_enter Tryz.func102,Tryz.ntmps102;go_wp2;go_ret;exact⟨_,rfl,yx _ _ _ _,zh _ _⟩
 ·have hnil:=fun w n=>Lib.run_eql_slice_nil (P:=Tryz.prog) w 26 174 (some ad) n c 0 0 Tryz.underlying26
  go_enter Tryz.func102,Tryz.ntmps102;have hown:(w.alloc (.cells #[] 174)).ownsRow w.heap.size 174 3 (.slice (some ⟨w.heap.size,0,none⟩) 0 0) 0 []:=World.ownsRow_lit w #[] 0 (zn _) zx rfl;have hb:Below w.heap.size w (w.alloc (.cells #[] 174)):=(zh _ _).alloc (zn _) _
  go_wp2_with (at_builtin;refine bu AZ rfl (.tmp 5) (.tmp 6) rfl w.heap.size _ 0 [] p (some ad) l.length c (dD l) rfl rfl hown (nE l) (h.after hb) (adN l) (by simp only[maxLen];omega) zy hb.size ?_;intro v' w1 hown1 hg1 QB hz1)
  go_ret;refine⟨v',rfl,by simpa using hown1,hb.grown hg1 hb.size fun k hk=>?_⟩
  have e:w.heap.size=k:=zq hk;omega
def Ow (w:World)(B:Nat)(A:Option Addr)(l:List aG):Prop:=
 l≠[]→∃q off cur T,A=some ⟨q,off,none⟩∧B≤q∧w.heap[q]? =some (.cells cur T (0,0))∧(cur.toList.drop off).take (l.length * 3)=dD l
theorem Ow.nil (w:World)(B:Nat)(A:Option Addr):Ow w B A []:=fun h=>absurd rfl h
theorem Ow.jf {w:World}{B n c:Nat}{T:TypeId}{A:Option Addr}{l:List aG}(h:w.ownsRow B T 3 (.slice A n c) n (dD l)):Ow w B A l:=fun hl=>by
 rcases h.2 with⟨_,h0⟩|⟨g,cap,cur,hv,hg,hh,_,_,_,hx⟩
 ·have h1:=h.1;rw[h0,nE] at h1
  cases l with
  |nil=>exact absurd rfl hl
  |cons o l=>simp at h1
 ·injection hv with hA _ _
  have h1:=h.1;rw[nE] at h1;exact⟨g,0,cur,T,hA,hg,hh,by rw[h1,List.drop_zero];exact hx⟩
theorem Ow.after {w w':World}{B:Nat}{A:Option Addr}{l:List aG}(h:Ow w B A l)(hb:Below w.heap.size w w'):Ow w' B A l:=fun hl=>by
 obtain⟨q,off,cur,T,hA,hB,hh,hx⟩:=h hl;exact⟨q,off,cur,T,hA,hB,(hb.block q (dV hh)).trans hh,hx⟩
theorem Ow.mono {w:World}{B B':Nat}{A:Option Addr}{l:List aG}(h:Ow w B A l)(hB:B'≤B):Ow w B' A l:=fun hl=>by
 obtain⟨q,off,cur,T,hA,hq,h'⟩:=h hl;exact⟨q,off,cur,T,hA,zy,h'⟩
theorem OG (q off j:Nat):(⟨q,off,none⟩:Addr).add j=⟨q,off+j,none⟩:=by
 unfold Addr.add;split
 ·rename_i h;subst h;rfl
 ·rfl
theorem Ow.at {w:World}{q off:Nat}{cur:Array Value}{T:TypeId}{l:List aG}(hh:w.heap[q]? =some (.cells cur T (0,0)))(hc:(cur.toList.drop off).take (l.length * 3)=dD l){j:Nat}{u:Value}(hu:(dD l)[j]? =some u):
 w.cell? ⟨q,off+j,none⟩=some u∧off+j < cur.size:=by
 have hj:j < (dD l).length:=(zf.1 hu).1;rw[nE] at hj;rw[← hc,yj,zW hj,yg] at hu;refine⟨?_,by simpa using (zf.1 hu).1⟩
 simp only[World.cell?,hh]
 simpa using hu
theorem Ow.rd {w:World}{B:Nat}{A:Option Addr}{l:List aG}(h:Ow w B A l):Rd w (fun b=>B≤b) A (dD l):=fun hx=>by
 have hl:l≠[]:=fun e=>hx (by rw[e];rfl)
 obtain⟨q,off,cur,T,rfl,hB,hh,hc⟩:=h hl;exact⟨_,rfl,hB,fun j u hu=>by rw[OG];exact (Ow.at hh hc hu).1⟩
theorem adP {l:List aG}{k:Nat}{o:aG}(hk:l[k]? =some o):(dD l)[k * 3]? =some (.int .i64 o.1)∧(dD l)[k * 3+1]? =some (.int .i64 o.2.1)∧(dD l)[k * 3+2]? =some (.int .i64 o.2.2):=by
 have hlt:k < l.length:=(zf.1 hk).1
 have hd:(dD l).drop (k * 3)=Ll o++dD (l.drop (k+1)):=by
  rw[DJ,zK hlt,(xw hlt).2 hk];rfl
 have key:∀j,(dD l)[k * 3+j]? =(Ll o++dD (l.drop (k+1)))[j]?:=fun j=>by rw[← yg,hd]
 exact⟨key 0,key 1,key 2⟩
theorem adM {l:List aG}{k:Nat}{o:aG}(z:Int)(hk:l[k]? =some o):(dD l).set (k * 3+2) (.int .i64 z)=dD (l.set k (o.1,o.2.1,z)):=by
 induction l generalizing k with
 |nil=>cases hk
 |cons a l ih=>
  cases k with
  |zero=>
   obtain rfl:=zq hk;rfl
  |succ k=>
   rw[kv,show (k+1) * 3+2=(k * 3+2)+1+1+1 by omega]
   simp only[List.set_cons_succ];rw[ih (by simpa using hk),kv]
theorem Ow.cells {w:World}{B:Nat}{A:Option Addr}{l:List aG}(h:Ow w B A l){k:Nat}{o:aG}(hk:l[k]? =some o):
 ∃q off,A=some ⟨q,off,none⟩∧B≤q∧w.cell? ⟨q,off+k * 3,none⟩=some (.int .i64 o.1)∧w.cell? ⟨q,off+k * 3+1,none⟩=some (.int .i64 o.2.1)∧w.cell? ⟨q,off+k * 3+2,none⟩=some (.int .i64 o.2.2)∧w.frozen? ⟨q,off+k * 3+2,none⟩=false∧
  (∀z,Ow (w.setCell ⟨q,off+k * 3+2,none⟩ (.int .i64 z)) B A (l.set k (o.1,o.2.1,z))):=by
 have hlt:k < l.length:=(zf.1 hk).1;have hl:l≠[]:=fun e=>by rw[e] at hlt;exact absurd hlt (yf _)
 obtain⟨q,off,cur,T,rfl,hB,hh,hc⟩:=h hl;obtain⟨g0,g1,g2⟩:=adP hk
 have key:∀j u,(dD l)[k * 3+j]? =some u→w.cell? ⟨q,off+k * 3+j,none⟩=some u:=fun j u hu=>by
  rw[wz];exact (Ow.at hh hc hu).1
 refine⟨q,off,rfl,hB,key 0 _ g0,key 1 _ g1,key 2 _ g2,?_,fun z _=>?_⟩
 ·simp[World.frozen?,hh]
 ·have hq:q < w.heap.size:=dV hh;have hh':w.heap[q]= .cells cur T (0,0):=by simpa [Array.getElem?_eq_getElem hq] using hh
  have ou:=(Ow.at hh hc g2).2;refine⟨q,off,cur.setIfInBounds (off+k * 3+2) (.int .i64 z),T,rfl,hB,?_,?_⟩
  ·show (w.heap.modify q _)[q]? =_;rw[xN (by simpa using hq),Array.getElem_modify_self,hh']
   first|rfl|simp
  ·rw[← adM z hk,← hc,vY];apply xR;intro j;simp only[Array.toList_setIfInBounds,List.getElem?_take,List.getElem?_drop,List.getElem?_set,List.length_take,List.length_drop]
   have hlen:l.length * 3≤cur.toList.length - off:=by
    have:=yV List.length hc;rw[nE,zJ,zH] at this;omega
   by_cases h1:j < l.length * 3
   ·rw[zW h1];by_cases h2:k * 3+2=j
    ·subst h2;simp only[if_true,Nat.add_assoc];rw[zW (by simpa [Nat.add_assoc] using ou),zW zy]
    ·rw[za zy,za h2,zW h1]
   ·rw[za h1];by_cases h2:k * 3+2=j
    ·omega
    ·rw[za h2,za h1]
end
section
def lC:Int→Option (List Int×Int×Int)
 |1=>some ([0,1,2,3,4,5,7],0,0)
 |2=>some ([0,1,2,3],0,0)
 |3=>some ([0,1,2,3,4,5,6,7],0,0)
 |4=>some ([0,1,2,3,5,6,8],0,0)
 |5=>some ([5,6],-128,127)
 |6=>some ([0],-32768,65535)
 |7=>some ([0],0,65535)
 |8=>some ([0,1,2,3,4,5,6,7],0,0)
 |9=>some ([0,1],0,0)
 |10=>some ([0],-128,127)
 |_=>none
def aP (o:aG):Bool:=match lC o.1 with
 |none=>false
 |some (rs,lo,hi)=>rs.contains o.2.1 && (decide (lo≤o.2.2) && decide (o.2.2≤hi))
def ap7 (w:Nat)(o:aG):aG:=
 let size:Int:=2 ^ (8 * w)
 if decide (o.1=6) && (decide (o.2.2 < 0) && (decide (-(size / 2)≤o.2.2) && decide (1 < size))) then (o.1,o.2.1,o.2.2+size) else o
def bG (o:aG):aG:=(o.1,o.2.1,0)
def iJ (l:List aG)(k:Nat):Int:=match l[k]? with
 |some o=>o.2.2
 |none=>0
def nz (l:List aG)(k:Nat)(z:Int):List aG:=match l[k]? with
 |some o=>l.set k (o.1,o.2.1,z)
 |none=>l
def qO (lo hi z:Int):Bool:=decide (lo≤z) && decide (z≤hi)
abbrev Vr:=Nat×Int×Int
def takeN (v:Option Vr)(l:List aG):Int:=match v with
 |none=>0
 |some v=>iJ l v.1
def takeB (v:Option Vr)(l:List aG):Bool:=match v with
 |none=>true
 |some v=>qO v.2.1 v.2.2 (iJ l v.1)
def gI (v:Option Vr)(l:List aG):List aG:=match v with
 |none=>l
 |some v=>cond (qO v.2.1 v.2.2 (iJ l v.1)) (nz l v.1 0) l
def BI (vd vn:Option Vr)(le lc:List aG):Bool:=takeB vd lc && (takeB vn (gI vd lc) && decide (gI vn (gI vd lc)=le))
def pM (v:Option Vr)(l:List aG)(z:Int):List aG:=match v with
 |none=>l
 |some v=>nz l v.1 z
def eO (vd vn:Option Vr)(le:List aG)(d n:Int):List aG:=pM vn (pM vd le d) n
theorem Br (l:List aG)(k:Nat)(z:Int):(nz l k z).length=l.length:=by
 unfold nz;split
 ·rw[vY]
 ·rfl
theorem eG (l:List aG)(k:Nat)(z:Int)(j:Nat):(nz l k z)[j]? =if j=k then (l[j]?).map (fun o=>(o.1,o.2.1,z)) else l[j]?:=by
 unfold nz;split
 ·rename_i o ho;rw[List.getElem?_set];by_cases h:j=k
  ·subst h;rw[zW rfl,zW rfl,zW (zf.1 ho).1,ho];rfl
  ·rw[za (xq h),za h]
 ·rename_i hn;by_cases h:j=k
  ·subst h;rw[zW rfl,hn];rfl
  ·rw[za h]
theorem Qb (l:List aG)(k:Nat)(z:Int)(j:Nat)(h:j≠k):iJ (nz l k z) j=iJ l j:=by
 unfold iJ;rw[eG,za h]
theorem vG {le lc:List aG}(h:le.map bG=lc.map bG):le.length=lc.length:=by
 have:=yV List.length h
 simpa using this
theorem Ux {le lc:List aG}(h:le.map bG=lc.map bG)(j:Nat):(le[j]?).map bG=(lc[j]?).map bG:=by
 rw[← yh,← yh,h]
def vOk (le:List aG)(v:Option Vr):Prop:=∀x,v=some x→x.1 < le.length∧iJ le x.1=0
def qV (vd vn:Option Vr)(k:Nat):Option (Int×Int):=match vd with
 |some x=>if x.1=k then some x.2 else (match vn with
  |some y=>if y.1=k then some y.2 else none
  |none=>none)
 |none=>match vn with
  |some y=>if y.1=k then some y.2 else none
  |none=>none
def aaj (vd vn:Option Vr)(le lc:List aG):Prop:=∀k o,lc[k]? =some o→match qV vd vn k with
 |some r=>qO r.1 r.2 o.2.2=true
 |none=>o.2.2=iJ le k
theorem bR {l:List aG}{k:Nat}{o:aG}(h:l[k]? =some o):iJ l k=o.2.2:=by
 unfold iJ;rw[h]
theorem WW {a b:aG}(h:bG a=bG b)(hn:a.2.2=b.2.2):a=b:=by
 obtain⟨a0,a1,a2⟩:=a;obtain⟨b0,b1,b2⟩:=b;simp only[bG,Prod.mk.injEq] at h;simp only at hn;rw[h.1,h.2.1,hn]
theorem NJ {vd vn:Option Vr}{le lc:List aG}(hs:le.map bG=lc.map bG)(hd:vOk le vd)(hn:vOk le vn)(hne:∀x y,vd=some x→vn=some y→x.1≠y.1):BI vd vn le lc=true↔aaj vd vn le lc:=by
 have hlen:=vG hs;have Jd:∀{k:Nat},k < le.length→∃o,lc[k]? =some o:=fun hk=>⟨_,zg zy⟩
 have step:∀(l:List aG),(∀j,(l[j]?).map bG=(lc[j]?).map bG)→(∀(j:Nat) (o e:aG),l[j]? =some o→le[j]? =some e→o.2.2=e.2.2)→l=le:=fun l h1 h2=>by
  apply xR;intro j;have h3:=h1 j;rw[← Ux hs j] at h3
  cases hl:l[j]? with
  |none=>
   rw[hl] at h3
   cases he:le[j]? with
   |none=>rfl
   |some e=>rw[he] at h3;cases h3
  |some o=>
   rw[hl] at h3
   cases he:le[j]? with
   |none=>rw[he] at h3;cases h3
   |some e=>
    rw[he] at h3;rw[WW (zq h3) (h2 j o e hl he)]
 have ac7:∀(l:List aG) (k:Nat),(∀j,(l[j]?).map bG=(lc[j]?).map bG)→∀j,((nz l k 0)[j]?).map bG=(lc[j]?).map bG:=fun l k h j=>by
  rw[eG];split
  ·rename_i e;rw[← h j,Option.map_map]
   cases l[j]?<;>rfl
  ·exact h j
 unfold BI aaj;simp only[Bool.and_eq_true,decide_eq_true_eq]
 cases vd with
 |none=>
  cases vn with
  |none=>
   simp only[takeB,gI,qV,true_and];constructor
   ·rintro rfl k o hk;exact (bR hk).symm
   ·intro h;exact step lc (fun _=>rfl) fun j o e ho he=>by rw[h j o ho,bR he]
  |some y=>
   obtain⟨hy1,hy2⟩:=hn y rfl;obtain⟨oy,hoy⟩:=Jd hy1;simp only[takeB,gI,qV,true_and,bR hoy];constructor
   ·rintro ⟨h1,h2⟩ k o hk;rw[h1,cond_true] at h2;by_cases ZY:y.1=k
    ·subst ZY;rw[zW rfl];rw[hk] at hoy;obtain rfl:=zq hoy;exact h1
    ·rw[za ZY];have:(nz lc y.1 0)[k]? =some o:=by rw[eG,za (xq ZY),hk]
     rw[h2] at this;exact (bR this).symm
   ·intro h;have h1:=h y.1 oy hoy;rw[zW rfl] at h1;refine⟨h1,?_⟩;rw[h1,cond_true];refine step _ (ac7 lc y.1 fun _=>rfl) fun j o e ho he=>?_
    rw[eG] at ho;split at ho
    ·rename_i ej;subst ej;rw[hoy] at ho;obtain rfl:=zq ho;rw[bR he] at hy2;exact hy2.symm
    ·rename_i ej;have:=h j o ho;rw[za (xq ej)] at this;rw[this,bR he]
 |some x=>
  obtain⟨hx1,hx2⟩:=hd x rfl;obtain⟨ox,hox⟩:=Jd hx1
  cases vn with
  |none=>
   simp only[takeB,gI,qV,true_and,bR hox];constructor
   ·rintro ⟨h1,h2⟩ k o hk;rw[h1,cond_true] at h2;by_cases ZY:x.1=k
    ·subst ZY;rw[zW rfl];rw[hk] at hox;obtain rfl:=zq hox;exact h1
    ·rw[za ZY];have:(nz lc x.1 0)[k]? =some o:=by rw[eG,za (xq ZY),hk]
     rw[h2] at this;exact (bR this).symm
   ·intro h;have h1:=h x.1 ox hox;rw[zW rfl] at h1;refine⟨h1,?_⟩;rw[h1,cond_true];refine step _ (ac7 lc x.1 fun _=>rfl) fun j o e ho he=>?_
    rw[eG] at ho;split at ho
    ·rename_i ej;subst ej;rw[hox] at ho;obtain rfl:=zq ho;rw[bR he] at hx2;exact hx2.symm
    ·rename_i ej;have:=h j o ho;rw[za (xq ej)] at this;rw[this,bR he]
  |some y=>
   have hxy:=hne x y rfl rfl;obtain⟨hy1,hy2⟩:=hn y rfl;obtain⟨oy,hoy⟩:=Jd hy1;have ey:∀z,iJ (nz lc x.1 z) y.1=oy.2.2:=fun z=>by rw[Qb _ _ _ _ (xq hxy),bR hoy]
   simp only[takeB,gI,qV,bR hox];constructor
   ·rintro ⟨h1,h2,h3⟩ k o hk;rw[h1,cond_true,ey] at h2;rw[h1,cond_true,ey,h2,cond_true] at h3;by_cases hkx:x.1=k
    ·subst hkx;rw[zW rfl];rw[hk] at hox;obtain rfl:=zq hox;exact h1
    ·rw[za hkx];by_cases ZY:y.1=k
     ·subst ZY;rw[zW rfl];rw[hk] at hoy;obtain rfl:=zq hoy;exact h2
     ·rw[za ZY];have:(nz (nz lc x.1 0) y.1 0)[k]? =some o:=by rw[eG,za (xq ZY),eG,za (xq hkx),hk]
      rw[h3] at this;exact (bR this).symm
   ·intro h;have h1:=h x.1 ox hox;rw[zW rfl] at h1;have h2:=h y.1 oy hoy;rw[za hxy,zW rfl] at h2;rw[h1,cond_true,ey];refine⟨rfl,h2,?_⟩;rw[h2,cond_true];refine step _ (ac7 _ y.1 (ac7 lc x.1 fun _=>rfl)) fun j o e ho he=>?_
    rw[eG] at ho;split at ho
    ·rename_i ej;subst ej;rw[eG,za (xq hxy),hoy] at ho;obtain rfl:=zq ho;rw[bR he] at hy2;exact hy2.symm
    ·rename_i ej;rw[eG] at ho;split at ho
     ·rename_i ek;subst ek;rw[hox] at ho;obtain rfl:=zq ho;rw[bR he] at hx2;exact hx2.symm
     ·rename_i ek;have:=h j o ho;rw[za (xq ek),za (xq ej)] at this;rw[this,bR he]
end
section
open Go.RowKit
def Bk (w:World)(b:Nat)(T:TypeId)(vs:List Value):Prop:=w.heap[b]? =some (.cells vs.toArray T (0,0))
section
variable {w w':World} {b:Nat} {T:TypeId} {vs:List Value}
theorem Bk.lt (h:Bk w b T vs):b < w.heap.size:=dV h
theorem Bk.new (w:World)(T:TypeId)(vs:List Value):Bk (w.alloc (.cells vs.toArray T)) w.heap.size T vs:=yJ w _
theorem Bk.cell (h:Bk w b T vs)(j:Nat){u:Value}(hu:vs[j]? =some u):w.cell? ⟨b,j,none⟩=some u:=by
 have h:w.heap[b]? =some (.cells vs.toArray T (0,0)):=h;simp only[World.cell?,h]
 simpa using hu
theorem Bk.frozen (h:Bk w b T vs)(j:Nat):w.frozen? ⟨b,j,none⟩=false:=by
 have h:w.heap[b]? =some (.cells vs.toArray T (0,0)):=h;simp[World.frozen?,h]
theorem Bk.set (h:Bk w b T vs)(j:Nat)(u:Value):Bk (w.setCell ⟨b,j,none⟩ u) b T (vs.set j u):=by
 have hlt:=h.lt;have h':w.heap[b]= .cells vs.toArray T (0,0):=by simpa [Bk,Array.getElem?_eq_getElem hlt] using h
 show (w.heap.modify b _)[b]? =_;rw[xN (by simpa using hlt),Array.getElem_modify_self,h']
 simp
theorem Bk.other (h:Bk w b T vs){p:Addr}(hp:b≠p.block)(u:Value):Bk (w.setCell p u) b T vs:=(zG w p u b hp).trans h
theorem Bk.alloc (h:Bk w b T vs)(O:Obj):Bk (w.alloc O) b T vs:=(wT w O b h.lt).trans h
theorem Bk.after (h:Bk w b T vs)(hb:Below w.heap.size w w'):Bk w' b T vs:=(hb.block b h.lt).trans h
theorem Bk.below {B:Nat}(h:Bk w b T vs)(hb:Below B w w')(hB:b < B):Bk w' b T vs:=(hb.block b hB).trans h
end
theorem Ow.other {w:World}{B:Nat}{A:Option Addr}{l:List aG}(h:Ow w B A l){p:Addr}(hp:p.block < B)(u:Value):Ow (w.setCell p u) B A l:=fun hl=>by
 obtain⟨q,off,cur,T,hA,hB,hh,hx⟩:=h hl;exact⟨q,off,cur,T,hA,hB,(zG w p u q zy).trans hh,hx⟩
theorem Ow.ne {w:World}{B:Nat}{A:Option Addr}{l:List aG}(h:Ow w B A l){p:Addr}(hp:l≠[]→∀a,A=some a→a.block≠p.block)(u:Value):Ow (w.setCell p u) B A l:=fun hl=>by
 obtain⟨q,off,cur,T,hA,hB,hh,hx⟩:=h hl;have hne:q≠p.block:=hp hl _ hA;exact⟨q,off,cur,T,hA,hB,(zG w p u q hne).trans hh,hx⟩
theorem um {w:World}{p:Addr}{u:Value}(O:Obj)(h:w.cell? p=some u):(w.alloc O).cell? p=some u:=(World.cell?_alloc_lt w O p (lt_of_cell h)).trans h
theorem BC {w w':World}{p:Addr}{u:Value}(hb:Below w.heap.size w w')(h:w.cell? p=some u):w'.cell? p=some u:=(hb.cell (lt_of_cell h)).trans h
abbrev upS (s:ByteArray):ByteArray:=⟨(s.data.toList.map gQ).toArray⟩
theorem D5 (s:ByteArray)(A:Option Addr)(l:List aG)(n c:Nat)(w:World)(p:Nat→Prop)(hs:s.size≤1000)(hn:n=l.length)(hm:l.length≤1000)(h:Rd w p A (dD l)):
 Calls Tryz.prog 57 #[.string s,.slice A n c] w fun e w'=>∃A' c',e= .returned (.agg #[.string (upS s),.slice A' n c'])∧Ow w' w.heap.size A' l∧n≤c'∧Below w.heap.size w w':=by
 have C1:Hid (∀W,Calls Tryz.prog 45 #[.string s] W fun e w'=>e= .returned (.string (upS s))∧Below W.heap.size W w'):=fun W=>jU s W (by unfold maxLen;omega)
 have C2:Hid (∀W,Below w.heap.size w W→Calls Tryz.prog 102 #[.slice A n c] W fun e w'=>∃A' c',e= .returned (.slice A' n c')∧Ow w' W.heap.size A' l∧n≤c'∧Below W.heap.size W w'):=fun W hb=>by
  refine (DI A l n c W p hn hm (h.after hb)).mono ?_;rintro e w' ⟨v,rfl,ho,hb'⟩;obtain⟨A',c',rfl,hc,_⟩:=bg ho;subst hn;exact⟨A',c',rfl,Ow.jf ho,hc,hb'⟩
 have HA:Hid (Below w.heap.size w (w.alloc (.cells #[.string ⟨#[]⟩,.slice none 0 0] 28))):=(zh _ _).alloc (zn _) _;have HK:=zo (Bk.new w 28 [.string ⟨#[]⟩,.slice none 0 0]);clear h hs hn hm;go_enter Tryz.func57,Tryz.ntmps57
 go_wp2_with (first
  |(go_at_call 45;refine (C1.out _).mono ?_;rintro e w1 ⟨rfl,hb⟩;have HB1:=zo (HA.trans (hb.mono HA.size));have jq:=zo (HK.after hb);clear hb)
  |(go_at_call 102;refine (C2.out _ HB1.out).mono ?_;rintro e w2 ⟨A',c',rfl,ho,hc,hb⟩;have HO:=zo ho;have HC:=zo hc;have HB2:=zo (HB1.trans (hb.mono HB1.size));have qL:=zo (jq.after hb);have c0:=qL.cell 0 rfl;have c1:=qL.cell 1 rfl;have f0:=qL.frozen 0;have f1:=qL.frozen 1;clear hb ho hc))
 have k:=(qL.set 0 (.string (upS s))).set 1 (.slice A' n c');have y0:=k.cell 0 rfl;have y1:=k.cell 1 rfl;have hlt:w.heap.size < w1.heap.size:=jq.lt;refine xx (v:=.agg #[.string (upS s),.slice A' n c']) (by simp[results,Tryz.results57,go_sem,y0,y1]) rfl ⟨A',c',rfl,((HO.other hlt _).other hlt _).mono zy,HC.out,(HB2.setCell (zn _) _).setCell (zn _) _⟩
def jZ (k:Nat)(l:List aG):List aG:=(l.take k).map bG++l.drop k
theorem OY {k:Nat}{l:List aG}{o:aG}(h:l[k]? =some o):(jZ k l)[k]? =some o:=by
 have hlt:k < l.length:=(zf.1 h).1;unfold jZ;rw[yR zu];simp[Nat.min_eq_left (Nat.le_of_lt hlt),h]
theorem OX {k:Nat}{l:List aG}{o:aG}(h:l[k]? =some o):(jZ k l).set k (o.1,o.2.1,0)=jZ (k+1) l:=by
 have hlt:k < l.length:=(zf.1 h).1
 have hd:l.drop k=o::l.drop (k+1):=by
  rw[zK hlt,(xw hlt).2 h]
 have ht:l.take (k+1)=l.take k++[o]:=by
  rw[xh,h];rfl
 unfold jZ;rw[hd,ht,yu,vV _ _ zu];simp[Nat.min_eq_left (Nat.le_of_lt hlt),bG]
theorem Lu (l:List aG):jZ 0 l=l:=by simp[jZ]
theorem OZ (l:List aG){k:Nat}(h:l.length≤k):jZ k l=l.map bG:=by simp[jZ,List.take_of_length_le h,List.drop_eq_nil_of_le h]
theorem GR (s:ByteArray)(A:Option Addr)(l:List aG)(n c:Nat)(w:World)(p:Nat→Prop)(hs:s.size≤1000)(hn:n=l.length)(hm:l.length≤1000)(h:Rd w p A (dD l)):
 Calls Tryz.prog 185 #[.agg #[.string s,.slice A n c]] w fun e w'=>∃A' c',e= .returned (.agg #[.string s,.slice A' n c'])∧Ow w' w.heap.size A' (l.map bG)∧Below w.heap.size w w':=by
 have C:Hid (∀W,Below w.heap.size w W→Calls Tryz.prog 57 #[.string s,.slice A n c] W fun e w'=>∃A' c',e= .returned (.agg #[.string (upS s),.slice A' n c'])∧Ow w' W.heap.size A' l∧n≤c'∧Below W.heap.size W w'):=fun W hb=>D5 s A l n c W p hs hn hm (h.after hb)
 have HA:Hid (Below w.heap.size w ((w.alloc (.cells #[.string s,.slice A n c] 28)).alloc (.cells #[.string ⟨#[]⟩,.slice none 0 0] 28))):=((zh _ _).alloc (zn _) _).alloc zw _;have HK0:Hid (Bk ((w.alloc (.cells #[.string s,.slice A n c] 28)).alloc (.cells #[.string ⟨#[]⟩,.slice none 0 0] 28)) w.heap.size 28 [.string s,.slice A n c]):=(Bk.new w 28 [.string s,.slice A n c]).alloc _
 have jq:Hid (Bk ((w.alloc (.cells #[.string s,.slice A n c] 28)).alloc (.cells #[.string ⟨#[]⟩,.slice none 0 0] 28)) (w.heap.size+1) 28 [.string ⟨#[]⟩,.slice none 0 0]):=by
  have:=Bk.new (w.alloc (.cells #[.string s,.slice A n c] 28)) 28 [.string ⟨#[]⟩,.slice none 0 0];rwa [zU] at this
 have HN:=zo hn;have hni:(n:Int)≤1000:=zy;clear h hs hn hm;go_enter Tryz.func185,Tryz.ntmps185
 go_wp2_with (go_at_call 57;refine (C.out _ HA.out).mono ?_;rintro e w1 ⟨A',c',rfl,ho,hc,hb⟩;have HB1:=zo (HA.trans (hb.mono HA.size));have HO:=zo (ho.mono (B':=w.heap.size+1+1) zw);have K0:=zo (HK0.after hb);have K1:=zo (jq.after hb);have k0:=um (.cells #[.string (upS s),.slice A' n c'] 28) (K0.cell 0 rfl);clear hb ho hc)
 have hlt:w.heap.size+1 < w1.heap.size:=K1.lt
 have HS:Hid (Bk (w1.alloc (.cells #[.string s,.slice A' n c'] 28)) w1.heap.size 28 [.string s,.slice A' n c']∧Bk (w1.alloc (.cells #[.string s,.slice A' n c'] 28)) (w.heap.size+1) 28 [.string ⟨#[]⟩,.slice none 0 0]∧
  Ow (w1.alloc (.cells #[.string s,.slice A' n c'] 28)) (w.heap.size+1+1) A' l∧Below w.heap.size w (w1.alloc (.cells #[.string s,.slice A' n c'] 28))):=
  ⟨Bk.new w1 28 [.string s,.slice A' n c'],K1.alloc _,HO.after ((zh _ _).alloc (zn _) _),HB1.alloc zy _⟩
 have HQ:Hid (l≠[]→∀a,A'=some a→a.block < w1.heap.size):=fun hl a ha=>by
  obtain⟨q,off,cur,T,hA,_,hh,_⟩:=HO.out hl;rw[hA] at ha;obtain rfl:=zq ha;exact dV hh
 obtain⟨Q,hQ⟩:∃Q,w1.heap.size=Q:=⟨_,rfl⟩;obtain⟨W0,hW0⟩:∃W0,w1.alloc (.cells #[.string s,.slice A' n c'] 28)=W0:=⟨_,rfl⟩;rw[hQ,hW0] at HS;rw[hQ] at HQ;rw[hQ] at hlt ⊢;rw[hW0];clear hQ hW0 k0
 go_loopw [4,16] (fun _ v wr=>∃k:Nat,v= .int .i64 (k:Int)∧k≤n∧Hid (Bk wr Q 28 [.string s,.slice A' n c']∧Bk wr (w.heap.size+1) 28 [.string ⟨#[]⟩,.slice none 0 0]∧Ow wr (w.heap.size+1+1) A' (jZ k l)∧Below w.heap.size w wr)) (fun _ v _=>n - (intOf v).toNat)
 case atStart=>exact⟨0,rfl,zF _,by rw[Lu];exact HS.out⟩
 case round=>
  obtain⟨k,rfl,hk,hr⟩:=hrel;have q0:=hr.1.cell 0 rfl;have q1:=hr.1.cell 1 rfl;by_cases hlt2:k < n
  ·have hk1:k < l.length:=by rw[← HN.out];exact hlt2
   have e1:=zg hk1;obtain⟨o,ho⟩:∃o,l[k]=o:=⟨_,rfl⟩;rw[ho] at e1;obtain⟨q,off,rfl,hq,c0,c1,c2,f2,hset⟩:=hr.2.2.1.cells (OY e1)
   have HE:Hid (Bk (wr.setCell ⟨q,off+k * 3+2,none⟩ (.int .i64 0)) Q 28 [.string s,.slice (some ⟨q,off,none⟩) n c']∧Bk (wr.setCell ⟨q,off+k * 3+2,none⟩ (.int .i64 0)) (w.heap.size+1) 28 [.string ⟨#[]⟩,.slice none 0 0]∧Ow (wr.setCell ⟨q,off+k * 3+2,none⟩ (.int .i64 0)) (w.heap.size+1+1) (some ⟨q,off,none⟩) (jZ (k+1) l)∧Below w.heap.size w (wr.setCell ⟨q,off+k * 3+2,none⟩ (.int .i64 0))):=by
    have hne:=HQ.out (fun e=>by rw[e] at hk1;exact absurd hk1 (yf _)) _ rfl
    have hne:q < Q:=hne;have:=hset 0;rw[OX e1] at this;exact⟨hr.1.other (by show Q≠q;omega) _,hr.2.1.other (by show w.heap.size+1≠q;omega) _,this,hr.2.2.2.setCell (by show w.heap.size≤q;omega) _⟩
   clear hset ho;go_wp2;go_roundw
   case rel=>exact⟨k+1,by go_num,zy,HE⟩
   case measure=>simp[intOf];omega
  ·have HE:Hid (Ow wr (w.heap.size+1+1) A' (l.map bG)):=by
    have:=hr.2.2.1;rwa [OZ l (by rw[← HN.out];omega)] at this
   have r0:=hr.2.1.cell 0 rfl;have r1:=hr.2.1.cell 1 rfl;have fr0:=hr.2.1.frozen 0;have fr1:=hr.2.1.frozen 1;go_wp2;have k:=(hr.2.1.set 0 (.string s)).set 1 (.slice A' n c');have y0:=k.cell 0 rfl;have y1:=k.cell 1 rfl;refine xx (v:=.agg #[.string s,.slice A' n c']) (by simp[results,Tryz.results185,go_sem,y0,y1]) rfl ⟨A',c',rfl,((HE.other zw _).other zw _).mono zy,(hr.2.2.2.setCell (yY _) _).setCell (yY _) _⟩
def wdN (S:Nat→Bool)(k:Nat):Nat→Nat
 |0=>0
 |n+1=>wdN S k n ||| (if S (64 * k+n) then 2 ^ n else 0)
def wd (S:Nat→Bool)(k:Nat):Nat:=wdN S k 64
theorem Rq (S:Nat→Bool)(k j:Nat):∀n,(wdN S k n).testBit j=(decide (j < n) && S (64 * k+j))
 |0=>by simp[wdN]
 |n+1=>by
  rw[wdN,Nat.testBit_or,Rq S k j n];by_cases hj:j=n
  ·subst hj
   cases hS:S (64 * k+j)<;>simp
  ·have h1:(j < n+1)↔(j < n):=zy;simp only[h1];split
   ·rw[vK];have:¬n=j:=fun e=>hj e.symm
    simp[this]
   ·simp
theorem jF (S:Nat→Bool)(k j:Nat):(wd S k).testBit j=(decide (j < 64) && S (64 * k+j)):=Rq S k j 64
theorem Rp (S:Nat→Bool)(k:Nat):wd S k < 18446744073709551616:=by
 have:wd S k < 2 ^ 64:=Nat.lt_pow_two_of_testBit _ fun j hj=>by
  rw[jF];have:¬j < 64:=zy;simp[this]
 simpa using this
def ins (S:Nat→Bool)(a:Nat):Nat→Bool:=fun x=>S x || x == a
theorem aha (S:Nat→Bool)(a:Nat):wd (ins S a) (a / 64)=wd S (a / 64) ||| 2 ^ (a % 64):=by
 apply xA;intro j;rw[Nat.testBit_or,jF,jF,vK,ins];have hm:a % 64 < 64:=Nat.mod_lt _ zx;by_cases hj:j < 64
 ·have e:(64 * (a / 64)+j == a)=decide (a % 64=j):=by
   rw[yX];simp;omega
  simp[hj,e]
 ·have e:¬a % 64=j:=zy;simp[hj,e]
theorem Ub (S:Nat→Bool)(a k:Nat)(hk:k≠a / 64):wd (ins S a) k=wd S k:=by
 apply xA;intro j;rw[jF,jF,ins];by_cases hj:j < 64
 ·have e:(64 * k+j == a)=false:=by simp;omega
  simp[e]
 ·simp[hj]
theorem acK (k:Nat):wd (fun _=>false) k=0:=by
 apply xA;intro j;rw[jF];simp
structure sw (T:Nat→Bool)(a r:Nat):Prop where
 ge:a≤r
 le:r≤65536
 no:∀x,a≤x→x < r→T x=false
 yes:r < 65536→T r=true
theorem sw.eq {T:Nat→Bool}{a r s:Nat}(h:sw T a r)(k:sw T a s):r=s:=by
 rcases Nat.lt_trichotomy r s with hlt|he|hgt
 ·have h1:=k.no r h.ge hlt;rw[h.yes (by have:=k.le;omega)] at h1;cases h1
 ·exact he
 ·have h1:=h.no s k.ge hgt;rw[k.yes (by have:=h.le;omega)] at h1;cases h1
def adR (T:Nat→Bool):Nat→Nat→Nat
 |0,a=>a
 |f+1,a=>if T a then a else adR T f (a+1)
def JG (T:Nat→Bool)(a:Nat):Nat:=adR T (65536 - a) a
theorem GZ (T:Nat→Bool):∀f a,a+f=65536→sw T a (adR T f a)
 |0,a,h=>⟨zn _,(by show a≤65536;omega),fun x h1 (h2:x < a)=>zy,fun (h1:a < 65536)=>zy⟩
 |f+1,a,h=>by
  unfold adR;split
  ·rename_i ht;exact⟨zn _,zy,fun x h1 h2=>zy,fun _=>ht⟩
  ·rename_i ht;have ih:=GZ T f (a+1) zy
   exact⟨by have:=ih.ge;omega,ih.le,fun x h1 h2=>by
    rcases Nat.eq_or_lt_of_le h1 with e|e
    ·subst e;simpa using ht
    ·exact ih.no x e h2,ih.yes⟩
theorem tY (T:Nat→Bool)(a:Nat)(h:a≤65536):sw T a (JG T a):=GZ T _ a zy
theorem Ak {T:Nat→Bool}{a r:Nat}(h:sw T a r):JG T a=r:=
 (tY T a (by have:=h.ge;have:=h.le;omega)).eq h
theorem Dl (S:Nat→Bool)(a:Nat)(h:wd S (a / 64) / 2 ^ (a % 64)=0):∀x,a≤x→x < (a / 64+1) * 64→S x=false:=by
 intro x h1 h2;have hb:=jF S (a / 64) (x % 64);have hx:x / 64=a / 64:=zy;have e:64 * (a / 64)+x % 64=x:=zy;have hm:x % 64 < 64:=zy;rw[e] at hb;simp only[hm,decide_true,Bool.true_and] at hb;rw[← hb]
 have h3:wd S (a / 64) < 2 ^ (a % 64):=by
  rcases Nat.div_eq_zero_iff.1 h with h4|h4
  ·exact absurd h4 (Nat.ne_of_gt (Nat.two_pow_pos _))
  ·exact h4
 exact Nat.testBit_lt_two_pow (zZ h3 (Nat.pow_le_pow_right zx zy))
theorem L9 (S:Nat→Bool)(a c:Nat)(n m:Nat)(h:wd S (a / 64) / 2 ^ (a % 64)=n)(hn:n=2 ^ c * (2 * m+1)):
 c < 64 - a % 64∧S (a+c)=true∧∀x,a≤x→x < a+c→S x=false:=by
 have hb:∀j,n.testBit j=(wd S (a / 64)).testBit (a % 64+j):=fun j=>by
  rw[← h,Nat.testBit_div_two_pow,Nat.add_comm]
 have h1:n.testBit c=true:=by
  rw[hn,vZ,Nat.testBit_mul_two_pow];simp[Nat.testBit_zero]
 have h2:∀j,j < c→n.testBit j=false:=fun j hj=>by
  rw[hn,vZ,Nat.testBit_mul_two_pow];have:¬c≤j:=zy;simp[this]
 have hc:c < 64 - a % 64:=by
  rw[hb,jF] at h1;simp at h1;omega
 refine⟨hc,?_,fun x g1 g2=>?_⟩
 ·rw[hb,jF] at h1;have e:64 * (a / 64)+(a % 64+c)=a+c:=zy;rw[e] at h1;simp at h1;exact h1.2
 ·have h3:=h2 (x - a) zy;rw[hb,jF] at h3;have e:64 * (a / 64)+(a % 64+(x - a))=x:=zy;have e2:a % 64+(x - a) < 64:=zy;rw[e] at h3
  simpa [e2] using h3
structure abS (cs:Array Value)(S:Nat→Bool)(n:Nat)(D:Nat→UInt8):Prop where
 size:cs.size=66561
 words:∀k,k < 1024→cs[k]? =some (.int .u64 (wd S k))
 count:cs[1024]? =some (.int .i64 n)
 bytes:∀a,a < 65536→cs[1025+a]? =some (.int .u8 (D a).toNat)
end
namespace Ex
open Go.RowKit
inductive AV where
 |raw (v:Value)
 |sym (fs:List (Int×Int×Bool)) (x:Int)
 |bool (b:Bool)
 |int (k:IntKind) (n:Int)
 |str (l:List Nat)
 |ptr (b o:Nat)
 |jK (g o:Nat)
 |bU
 |slice (b o k n:Nat) (c:Option Nat)
 |bT
 |FI (j:Nat)
 |map (b:Nat)
 |Bi (b:Nat)
 |fn (f:Fn) (l c:List AV)
 |iface (t:TypeId) (v:AV)
 |agg (l:List AV)
 |tuple (l:List AV)
 |uK (l:List AV)
structure Env where
 blk:Nat→Nat
 cap:Nat→Nat
 es:Nat→Addr×Nat
def bO (c:Nat):Nat:=c % 256
def ag (l:List Nat):ByteArray:=⟨(l.map UInt8.ofNat).toArray⟩
mutual
def cv (ρ:Env):AV→Value
 | .raw v=>v
 | .sym _ x=>.int .i64 x
 | .bool b=>.bool b
 | .int k n=>.int k n
 | .str l=>.string (ag l)
 | .ptr b o=>.pointer (some ⟨ρ.blk b,o,none⟩)
 | .jK g o=>.pointer (some ⟨g,o,none⟩)
 | .bU=>.pointer none
 | .slice b o k n c=>.slice (some ⟨ρ.blk b,o,none⟩) n (match c with|some c=>c|none=>ρ.cap b - k)
 | .bT=>.slice none 0 0
 | .FI j=>.slice (some (ρ.es j).1) 0 (ρ.es j).2
 | .map b=>.map (some (ρ.blk b))
 | .Bi b=>.func (.yield (ρ.blk b)) #[] #[]
 | .fn f l c=>.func f (aH ρ l).toArray (aH ρ c).toArray
 | .iface t v=>.iface t (cv ρ v)
 | .agg l=>.agg (aH ρ l).toArray
 | .tuple l=>.tuple (aH ρ l).toArray
 | .uK _=>.tuple #[]
def aH (ρ:Env):List AV→List Value
 |[]=>[]
 |v::l=>cv ρ v::aH ρ l
end
def kM (fs:List (Int×Int×Bool))(x:Int):Prop:=∀f∈fs,(decide (f.1≤x) && decide (x≤f.2.1))=f.2.2
mutual
def AV.ok (n:Nat):AV→Prop
 | .sym fs x=>kM fs x
 | .ptr b _=>b < n
 | .slice b _ _ _ _=>b < n
 | .FI j=>j < n
 | .map b=>b < n
 | .Bi b=>b < n
 | .fn _ l c=>oks n l∧oks n c
 | .iface _ v=>v.ok n
 | .agg l=>oks n l
 | .tuple l=>oks n l
 | .uK l=>oks n l
 |_=>True
def oks (n:Nat):List AV→Prop
 |[]=>True
 |v::l=>v.ok n∧oks n l
end
theorem bz (ρ:Env):∀l,aH ρ l=l.map (cv ρ)
 |[]=>rfl
 |v::l=>by rw[aH,bz ρ l,zO]
theorem bQ (n:Nat):∀l,oks n l↔∀v∈l,v.ok n
 |[]=>by simp[oks]
 |v::l=>by rw[oks,bQ n l];simp
theorem ay (ρ:Env)(l:List AV):(aH ρ l).length=l.length:=by rw[bz,zI]
structure Ext (n:Nat)(ρ ρ':Env):Prop where
 blk:∀b,b < n→ρ'.blk b=ρ.blk b
 cap:∀b,b < n→ρ'.cap b=ρ.cap b
 es:∀b,b < n→ρ'.es b=ρ.es b
theorem Ext.refl (n:Nat)(ρ:Env):Ext n ρ ρ:=⟨fun _ _=>rfl,fun _ _=>rfl,fun _ _=>rfl⟩
theorem Ext.trans {n m:Nat}{ρ ρ' ry:Env}(h:Ext n ρ ρ')(k:Ext m ρ' ry)(hn:n≤m):Ext n ρ ry:=
 ⟨fun b hb=>(k.blk b zy).trans (h.blk b hb),fun b hb=>(k.cap b zy).trans (h.cap b hb),fun b hb=>(k.es b zy).trans (h.es b hb)⟩
section
variable {n:Nat} {ρ ρ':Env}
mutual
theorem iV (h:Ext n ρ ρ'):∀v:AV,v.ok n→cv ρ' v=cv ρ v
 | .raw _,_ | .sym _ _,_ | .bool _,_ | .int _ _,_ | .str _,_ | .bU,_ | .jK _ _,_ | .bT,_ | .uK _,_=>by simp only[cv]
 | .ptr b o,hv=>by rw[cv,cv,h.blk b hv]
 | .slice b o k m c,hv=>by
   have hb:=h.blk b hv;have hc:=h.cap b hv
   cases c<;>simp only[cv,hb,hc]
 | .FI j,hv=>by rw[cv,cv,h.es j hv]
 | .map b,hv=>by rw[cv,cv,h.blk b hv]
 | .Bi b,hv=>by rw[cv,cv,h.blk b hv]
 | .fn f l c,hv=>by rw[cv,cv,cz h l hv.1,cz h c hv.2]
 | .iface t v,hv=>by rw[cv,cv,iV h v hv]
 | .agg l,hv=>by rw[cv,cv,cz h l hv]
 | .tuple l,hv=>by rw[cv,cv,cz h l hv]
theorem cz (h:Ext n ρ ρ'):∀l:List AV,oks n l→aH ρ' l=aH ρ l
 |[],_=>rfl
 |v::l,hv=>by rw[aH,aH,iV h v hv.1,cz h l hv.2]
end
end
mutual
theorem AV.ok.mono {n m:Nat}(h:n≤m):∀v:AV,v.ok n→v.ok m
 | .raw _,_ | .bool _,_ | .int _ _,_ | .str _,_ | .bU,_ | .jK _ _,_ | .bT,_=>trivial
 | .sym _ _,hv=>hv
 | .ptr _b _o,hv=>zZ hv h
 | .slice _b _o _k _ _c,hv=>zZ hv h
 | .FI _j,hv=>zZ hv h
 | .map _b,hv=>zZ hv h
 | .Bi _b,hv=>zZ hv h
 | .fn _f l c,hv=>⟨oks.mono h l hv.1,oks.mono h c hv.2⟩
 | .iface _t v,hv=>AV.ok.mono h v hv
 | .agg l,hv=>oks.mono h l hv
 | .tuple l,hv=>oks.mono h l hv
 | .uK l,hv=>oks.mono h l hv
theorem oks.mono {n m:Nat}(h:n≤m):∀l:List AV,oks n l→oks m l
 |[],_=>trivial
 |v::l,hv=>⟨AV.ok.mono h v hv.1,oks.mono h l hv.2⟩
end
def au {α:Type}(k:Nat):List (Nat×α)→Option α
 |[]=>none
 |p::l=>cond (Nat.beq p.1 k) (some p.2) (au k l)
def ib {α:Type}(k:Nat)(v:α):List (Nat×α)→List (Nat×α)
 |[]=>[]
 |p::l=>cond (Nat.beq p.1 k) ((k,v)::l) (p::ib k v l)
def uU {α:Type}(k:Nat):List (Nat×α)→List (Nat×α)
 |[]=>[]
 |p::l=>cond (Nat.beq p.1 k) l (p::uU k l)
theorem beq_iff (a b:Nat):Nat.beq a b=true↔a=b:=⟨vX,fun h=>by subst h;exact Nat.beq_refl a⟩
theorem eQ {a b:Nat}(h:a≠b):Nat.beq a b=false:=by
 cases e:Nat.beq a b
 ·rfl
 ·exact absurd ((beq_iff _ _).1 e) h
theorem aA {α:Type}(k:Nat)(v:α)(l:List (Nat×α)):au k ((k,v)::l)=some v:=by
 simp[au]
theorem aD {α:Type}{k j:Nat}(v:α)(l:List (Nat×α))(h:j≠k):au k ((j,v)::l)=au k l:=by
 simp[au,eQ h]
theorem nY {α:Type}{k j:Nat}(v:α)(h:j≠k):∀l:List (Nat×α),au k (ib j v l)=au k l
 |[]=>rfl
 |p::l=>by
  by_cases hj:p.1=j
  ·have e:Nat.beq p.1 j=true:=(beq_iff _ _).2 hj;have e2:Nat.beq p.1 k=false:=eQ (fun e=>h (hj.symm.trans e))
   simp[ib,e,au,e2,eQ h]
  ·simp only[ib,eQ hj,cond_false,au];rw[nY v h l]
theorem pX {α:Type}{k:Nat}(v:α):∀(l:List (Nat×α)) {u:α},au k l=some u→au k (ib k v l)=some v
 |[],_,h=>by cases h
 |p::l,u,h=>by
  by_cases hj:p.1=k
  ·have e:Nat.beq p.1 k=true:=(beq_iff _ _).2 hj;simp[ib,e,au]
  ·simp only[ib,au,eQ hj,cond_false] at h ⊢;exact pX v l h
theorem Iz {α:Type}(k:Nat)(v:α):∀l:List (Nat×α),(ib k v l).map (·.1)=l.map (·.1)
 |[]=>rfl
 |p::l=>by
  by_cases hj:p.1=k
  ·have e:Nat.beq p.1 k=true:=(beq_iff _ _).2 hj;simp[ib,hj]
  ·simp only[ib,eQ hj,cond_false,List.map_cons,Iz k v l]
theorem uT {α:Type}(k:Nat):∀l:List (Nat×α),(uU k l).Sublist l
 |[]=>.slnil
 |p::l=>by
  unfold uU
  cases Nat.beq p.1 k
  ·exact (uT k l).cons_cons p
  ·exact (List.Sublist.refl l).cons p
theorem bf {α:Type}{k:Nat}{v:α}:∀{l:List (Nat×α)},au k l=some v→(k,v)∈l
 |[],h=>by cases h
 |p::l,h=>by
  by_cases hj:p.1=k
  ·have e:Nat.beq p.1 k=true:=(beq_iff _ _).2 hj;simp only[au,e,cond_true,Option.some.injEq] at h;obtain⟨p1,p2⟩:=p;simp only at h hj;subst h;subst hj;exact zb
  ·simp only[au,eQ hj,cond_false] at h;exact ze _ (bf h)
theorem eP {α:Type}{k:Nat}{v:α}:∀{l:List (Nat×α)},(l.map (·.1)).Nodup→(k,v)∈l→au k l=some v
 |[],_,h=>by cases h
 |p::l,hn,h=>by
  simp only[List.map_cons,List.nodup_cons] at hn;rcases zQ.1 h with rfl|h
  ·exact aA _ _ _
  ·have hk:p.1≠k:=fun e=>hn.1 (zX.2 ⟨(k,v),h,e.symm⟩)
   simp only[au,eQ hk,cond_false];exact eP hn.2 h
theorem mX {α:Type}{l l':List (Nat×α)}(hn:(l.map (·.1)).Nodup)(h:l'.Sublist l){k:Nat}{v:α}(hk:au k l'=some v):au k l=some v:=
 eP hn (h.subset (bf hk))
theorem IG {α:Type}{k:Nat}:∀{l:List (Nat×α)},(l.map (·.1)).Nodup→∀{v:α},au k (uU k l)≠some v
 |[],_,_,h=>by cases h
 |p::l,hn,v,h=>by
  simp only[List.map_cons,List.nodup_cons] at hn;by_cases hj:p.1=k
  ·have e:Nat.beq p.1 k=true:=(beq_iff _ _).2 hj;simp only[uU,e,cond_true] at h;exact hn.1 (zX.2 ⟨(k,v),bf h,hj.symm⟩)
  ·simp only[uU,eQ hj,cond_false,au] at h;exact IG hn.2 h
theorem jl {α:Type}{k j:Nat}{l:List (Nat×α)}(hn:(l.map (·.1)).Nodup){u:α}(h:au k (uU j l)=some u):k≠j∧au k l=some u:=
 ⟨fun e=>by subst e;exact IG hn h,mX hn (uT j l) h⟩
inductive TT where
 |nil
 |nd (v:AV) (l r:TT)
def TT.get:TT→Nat→AV
 | .nil,_=>.tuple []
 | .nd v l r,i=>match i with
   |0=>v
   |k+1=>cond (Nat.beq (Nat.mod k 2) 0) (l.get (Nat.div k 2)) (r.get (Nat.div k 2))
def TT.mkl (u:AV)(r:TT):TT→TT
 | .nil=>.nd u .nil r
 | .nd a b c=>.nd u (.nd a b c) r
def TT.mkr (u:AV)(l:TT):TT→TT
 | .nil=>.nd u l .nil
 | .nd a b c=>.nd u l (.nd a b c)
def TT.put:Nat→TT→Nat→AV→TT
 |0,t,_,_=>t
 |f+1,t,i,v=>match t with
  | .nil=>match i with
    |0=>.nd v .nil .nil
    |k+1=>cond (Nat.beq (Nat.mod k 2) 0) (TT.mkl (.tuple []) .nil (TT.put f .nil (Nat.div k 2) v)) (TT.mkr (.tuple []) .nil (TT.put f .nil (Nat.div k 2) v))
  | .nd u l r=>match i with
    |0=>.nd v l r
    |k+1=>cond (Nat.beq (Nat.mod k 2) 0) (TT.mkl u r (TT.put f l (Nat.div k 2) v)) (TT.mkr u l (TT.put f r (Nat.div k 2) v))
theorem TT.YY (u:AV)(r t:TT):TT.mkl u r t= .nd u t r:=by cases t<;>rfl
theorem TT.YX (u:AV)(l t:TT):TT.mkr u l t= .nd u l t:=by cases t<;>rfl
theorem TT.get_nil (i:Nat):TT.nil.get i= .tuple []:=rfl
theorem TT.uy (v:AV)(l r:TT):(TT.nd v l r).get 0=v:=rfl
theorem TT.dK (v:AV)(l r:TT)(k:Nat):(TT.nd v l r).get (k+1)=if k % 2=0 then l.get (k / 2) else r.get (k / 2):=by
 show cond (Nat.beq (k % 2) 0) _ _=_;by_cases h:k % 2=0
 ·rw[h];rfl
 ·rw[eQ h,za h];rfl
theorem pQ {α:Type}(k:Nat)(x y:α):cond (Nat.beq (Nat.mod k 2) 0) x y=if k % 2=0 then x else y:=by
 show cond (Nat.beq (k % 2) 0) _ _=_;by_cases h:k % 2=0
 ·rw[h];rfl
 ·rw[eQ h,za h];rfl
theorem TT.Jt (f k:Nat)(v:AV):TT.put (f+1) .nil (k+1) v=if k % 2=0 then .nd (.tuple []) (TT.put f .nil (k / 2) v) .nil else .nd (.tuple []) .nil (TT.put f .nil (k / 2) v):=by
 simp only[TT.put,TT.YY,TT.YX];exact pQ k _ _
theorem TT.Mt (f k:Nat)(u:AV)(l r:TT)(v:AV):TT.put (f+1) (.nd u l r) (k+1) v=if k % 2=0 then .nd u (TT.put f l (k / 2) v) r else .nd u l (TT.put f r (k / 2) v):=by
 simp only[TT.put,TT.YY,TT.YX];exact pQ k _ _
theorem TT.iB:∀(f:Nat) (t:TT) (i:Nat) (v:AV) (j:Nat),i+1 < 2 ^ f→(TT.put f t i v).get j=if i=j then v else t.get j
 |0,t,i,v,j,h=>by simp at h
 |f+1,t,i,v,j,h=>by
  have key:∀k,i=k+1→k / 2+1 < 2 ^ f:=fun k hk=>by
   have:2 ^ (f+1)=2 * 2 ^ f:=by rw[Nat.pow_succ,vZ]
   omega
  have JY:∀k m,k % 2=m % 2→(k / 2=m / 2↔k+1=m+1):=fun k m h=>by omega
  cases i with
  |zero=>
   cases t<;>cases j with
   |zero=>rfl
   |succ j=>
    first
     |(show (TT.nd v .nil .nil).get (j+1)=_
       rw[TT.dK];simp[TT.get_nil])
     |(rename_i u l r
       show (TT.nd v l r).get (j+1)=_;rw[TT.dK,TT.dK,za (show ¬0=j+1 by omega)])
  |succ k=>
   have hk:=key k rfl
   cases t with
   |nil=>
    rw[TT.Jt];by_cases hp:k % 2=0
    ·rw[zW hp]
     cases j with
     |zero=>rw[TT.uy,za zy];rfl
     |succ j=>
      rw[TT.dK];by_cases hj:j % 2=0
      ·rw[zW hj,TT.iB f _ _ _ _ hk];simp only[JY k j (hp.trans hj.symm)];rfl
      ·rw[za hj,za (fun e=>hj zy)]
       rfl
    ·rw[za hp]
     cases j with
     |zero=>rw[TT.uy,za zy];rfl
     |succ j=>
      rw[TT.dK];by_cases hj:j % 2=0
      ·rw[zW hj,za (fun e=>hp zy)]
       rfl
      ·rw[za hj,TT.iB f _ _ _ _ hk];simp only[JY k j zy];rfl
   |nd u l r=>
    rw[TT.Mt];by_cases hp:k % 2=0
    ·rw[zW hp]
     cases j with
     |zero=>rw[TT.uy,za zy];rfl
     |succ j=>
      rw[TT.dK,TT.dK];by_cases hj:j % 2=0
      ·rw[zW hj,zW hj,TT.iB f _ _ _ _ hk];simp only[JY k j (hp.trans hj.symm)]
      ·rw[za hj,za hj,za (fun e=>hj zy)]
    ·rw[za hp]
     cases j with
     |zero=>rw[TT.uy,za zy];rfl
     |succ j=>
      rw[TT.dK,TT.dK];by_cases hj:j % 2=0
      ·rw[zW hj,zW hj,za (fun e=>hp zy)]
      ·rw[za hj,za hj,TT.iB f _ _ _ _ hk];simp only[JY k j zy]
inductive Tr (α:Type) where
 |nil
 |nd (v:Option α) (l r:Tr α)
def Tr.get {α:Type}:Tr α→Nat→Option α
 | .nil,_=>none
 | .nd v l r,i=>match i with
   |0=>v
   |k+1=>cond (Nat.beq (Nat.mod k 2) 0) (l.get (Nat.div k 2)) (r.get (Nat.div k 2))
def Tr.put {α:Type}:Nat→Tr α→Nat→α→Tr α
 |0,t,_,_=>t
 |f+1,t,i,v=>match t with
  | .nil=>match i with
    |0=>.nd (some v) .nil .nil
    |k+1=>cond (Nat.beq (Nat.mod k 2) 0) (.nd none (Tr.put f .nil (Nat.div k 2) v) .nil) (.nd none .nil (Tr.put f .nil (Nat.div k 2) v))
  | .nd u l r=>match i with
    |0=>.nd (some v) l r
    |k+1=>cond (Nat.beq (Nat.mod k 2) 0) (.nd u (Tr.put f l (Nat.div k 2) v) r) (.nd u l (Tr.put f r (Nat.div k 2) v))
theorem Tr.get_nil {α:Type}(i:Nat):(Tr.nil:Tr α).get i=none:=rfl
theorem Tr.dK {α:Type}(v:Option α)(l r:Tr α)(k:Nat):(Tr.nd v l r).get (k+1)=if k % 2=0 then l.get (k / 2) else r.get (k / 2):=pQ k _ _
theorem Tr.iB {α:Type}:∀(f:Nat) (t:Tr α) (i:Nat) (v:α) (j:Nat) (u:α),(Tr.put f t i v).get j=some u→(j=i∧u=v)∨t.get j=some u
 |0,t,i,v,j,u,h=>.inr h
 |f+1,t,i,v,j,u,h=>by
  have JY:∀k m,k % 2=m % 2→k / 2=m / 2→k+1=m+1:=fun k m h1 h2=>by omega
  cases t with
  |nil=>
   cases i with
   |zero=>
    cases j with
    |zero=>exact .inl ⟨rfl,(zq h).symm⟩
    |succ j=>
     have:(Tr.nd (some v) .nil .nil).get (j+1)=some u:=h;rw[Tr.dK] at this;simp[Tr.get_nil] at this
   |succ k=>
    have h':(if k % 2=0 then Tr.nd none (Tr.put f .nil (k / 2) v) .nil else Tr.nd none .nil (Tr.put f .nil (k / 2) v)).get j=some u:=by
     rw[← pQ k (Tr.nd none (Tr.put f .nil (k / 2) v) .nil) (Tr.nd none .nil (Tr.put f .nil (k / 2) v))];exact h
    cases j with
    |zero=>split at h'<;>cases h'
    |succ j=>
     split at h'<;>rename_i hp<;>rw[Tr.dK] at h'<;>split at h'<;>rename_i hj
     ·rcases Tr.iB f _ _ _ _ _ h' with⟨e,rfl⟩|e
      ·exact .inl ⟨JY j k zy e,rfl⟩
      ·cases e
     ·cases h'
     ·cases h'
     ·rcases Tr.iB f _ _ _ _ _ h' with⟨e,rfl⟩|e
      ·exact .inl ⟨JY j k zy e,rfl⟩
      ·cases e
  |nd w l r=>
   cases i with
   |zero=>
    cases j with
    |zero=>exact .inl ⟨rfl,(zq h).symm⟩
    |succ j=>
     have:(Tr.nd (some v) l r).get (j+1)=some u:=h;rw[Tr.dK] at this;exact .inr (by rw[Tr.dK];exact this)
   |succ k=>
    have h':(if k % 2=0 then Tr.nd w (Tr.put f l (k / 2) v) r else Tr.nd w l (Tr.put f r (k / 2) v)).get j=some u:=by
     rw[← pQ k (Tr.nd w (Tr.put f l (k / 2) v) r) (Tr.nd w l (Tr.put f r (k / 2) v))];exact h
    cases j with
    |zero=>right;split at h'<;>exact h'
    |succ j=>
     rw[Tr.dK];split at h'<;>rename_i hp<;>rw[Tr.dK] at h'<;>split at h'<;>rename_i hj
     ·rw[zW hj];rcases Tr.iB f _ _ _ _ _ h' with⟨e,rfl⟩|e
      ·exact .inl ⟨JY j k zy e,rfl⟩
      ·exact .inr e
     ·rw[za hj];exact .inr h'
     ·rw[zW hj];exact .inr h'
     ·rw[za hj];rcases Tr.iB f _ _ _ _ _ h' with⟨e,rfl⟩|e
      ·exact .inl ⟨JY j k zy e,rfl⟩
      ·exact .inr e
def ahg {α:Type}:List (Nat×α)→Tr α
 |[]=>.nil
 |p::l=>Tr.put 20 (ahg l) p.1 p.2
theorem LK {α:Type}{k:Nat}{v:α}:∀{l:List (Nat×α)},(ahg l).get k=some v→(k,v)∈l
 |[],h=>by cases h
 |p::l,h=>by
  rcases Tr.iB _ _ _ _ _ _ h with⟨rfl,rfl⟩|h
  ·exact zb
  ·exact ze _ (LK h)
inductive aF where
 |cells (vals:List AV) (e:TypeId) (sz:Option Nat)
 |map (es:List (AV×AV×Nat)) (clock:Nat)
 |lS (es:List (AV×AV))
 |oP (l:List Nat) (pos:Nat)
 |nV (m since:Nat) (seen:List Nat) (last:Nat)
 |loop (st:LoopState) (pend:Option Code) (N:Nat) (t:TT) (ps:Array Tmp) (assign body:Code)
 |Tm
 |img (e:TypeId) (l:List (Nat×Nat))
def Lm (l:List (Nat×Nat)):Nat→Bool:=fun a=>(au a l).isSome
def imD (l:List (Nat×Nat)):Nat→UInt8:=fun a=>UInt8.ofNat ((au a l).getD 0)
def aF.ok (n:Nat):aF→Prop
 | .cells vals _ _=>oks n vals
 | .map es _=>∀x∈es,x.1.ok n∧x.2.1.ok n
 | .lS es=>∀x∈es,x.1.ok n∧x.2.ok n
 | .oP _ _=>True
 | .nV m _ _ _=>m < n
 | .loop _ _ _ t _ _ _=>∀i,(t.get i).ok n
 | .Tm=>True
 | .img _ _=>True
def aI (ρ:Env)(x:AV×AV×Nat):MapEntry:=⟨cv ρ x.1,cv ρ x.2.1,x.2.2⟩
def aF.rep (ρ:Env)(w:World)(b:Nat):aF→Prop
 | .cells vals e none=>w.heap[ρ.blk b]? =some (.cells (aH ρ vals).toArray e (0,0))
 | .cells vals e (some sz)=>∃n cur,w.heap[ρ.blk b]? =some (.cells cur e (0,0))∧n≤ρ.cap b∧ρ.cap b≤maxLen∧cur.size=ρ.cap b * sz∧vals.length=n * sz∧cur.toList.take (n * sz)=aH ρ vals
 | .map es clock=>w.heap[ρ.blk b]? =some (.map (es.map (aI ρ)).toArray clock)
 | .lS es=>∃(arr:Array MapEntry) (clock:Nat),w.heap[ρ.blk b]? =some (.map arr clock)∧(arr.toList.map fun e=>(e.key,e.val)).Perm (es.map fun x=>(cv ρ x.1,cv ρ x.2))∧(es.map fun x=>cv ρ x.1).Nodup
 | .oP l pos=>w.heap[ρ.blk b]? =some (.stringIter (ag l) pos)
 | .nV m since seen last=>w.heap[ρ.blk b]? =some (.mapIter (some (ρ.blk m)) since seen.toArray last)
 | .loop st pend N t ps asqz bd=>∃r:Loop,w.heap[ρ.blk b]? =some (.loop r)∧r.state=st∧r.pending=pend∧r.tmps.size=N∧(∀i,r.tmps.getD i undef=cv ρ (t.get i))∧r.params=ps∧r.assign=asqz∧r.body=bd
 | .Tm=>w.heap[ρ.blk b]? =some (.deferred (some []))
 | .img e l=>∃cs,w.heap[ρ.blk b]? =some (.cells cs e (0,0))∧abS cs (Lm l) l.length (imD l)
theorem aF.rep.heap {ρ:Env}{w w':World}{b:Nat}:∀{k:aF},k.rep ρ w b→w'.heap[ρ.blk b]? =w.heap[ρ.blk b]? →k.rep ρ w' b
 | .cells _ _ none,h,e=>e.trans h
 | .cells _ _ (some _),⟨n,cur,h,h'⟩,e=>⟨n,cur,e.trans h,h'⟩
 | .map _ _,h,e=>e.trans h
 | .lS _,⟨arr,c,h,h'⟩,e=>⟨arr,c,e.trans h,h'⟩
 | .oP _ _,h,e=>e.trans h
 | .nV _ _ _ _,h,e=>e.trans h
 | .loop _ _ _ _ _ _ _,⟨r,h,h'⟩,e=>⟨r,e.trans h,h'⟩
 | .Tm,h,e=>e.trans h
 | .img _ _,⟨cs,h,h'⟩,e=>⟨cs,e.trans h,h'⟩
theorem aF.rep.ext {n:Nat}{ρ ρ':Env}{w:World}{b:Nat}(he:Ext n ρ ρ')(hb:b < n):∀{k:aF},k.ok n→k.rep ρ w b→k.rep ρ' w b
 | .cells vals _ none,ho,h=>by
   simp only[aF.rep] at h ⊢;rw[he.blk b hb,cz he vals ho];exact h
 | .cells vals _ (some _),ho,⟨n,cur,h1,h2,h3,h4,h5,h6⟩=>by
   refine⟨n,cur,?_,?_,?_,?_,h5,?_⟩
   ·rw[he.blk b hb];exact h1
   ·rw[he.cap b hb];exact h2
   ·rw[he.cap b hb];exact h3
   ·rw[he.cap b hb];exact h4
   ·rw[cz he vals ho];exact h6
 | .map es _,ho,h=>by
   simp only[aF.rep] at h ⊢
   have e:es.map (aI ρ')=es.map (aI ρ):=yt fun x hx=>by
    simp only[aI,iV he _ (ho x hx).1,iV he _ (ho x hx).2]
   rw[he.blk b hb,e];exact h
 | .lS es,ho,⟨arr,c,h1,h2,h3⟩=>by
   have e1:(es.map fun x=>(cv ρ' x.1,cv ρ' x.2))=es.map fun x=>(cv ρ x.1,cv ρ x.2):=yt fun x hx=>by rw[iV he _ (ho x hx).1,iV he _ (ho x hx).2]
   have e2:(es.map fun x=>cv ρ' x.1)=es.map fun x=>cv ρ x.1:=yt fun x hx=>iV he _ (ho x hx).1
   refine⟨arr,c,?_,by rw[e1];exact h2,by rw[e2];exact h3⟩
   rw[he.blk b hb];exact h1
 | .oP _ _,_,h=>by
   simp only[aF.rep] at h ⊢;rw[he.blk b hb];exact h
 | .nV m _ _ _,ho,h=>by
   simp only[aF.rep] at h ⊢;rw[he.blk b hb,he.blk m ho];exact h
 | .loop _ _ _ t _ _ _,ho,⟨r,h1,h2,h3,h4,h5,h6⟩=>by
   refine⟨r,?_,h2,h3,h4,fun i=>?_,h6⟩
   ·rw[he.blk b hb];exact h1
   ·rw[iV he _ (ho i)];exact h5 i
 | .Tm,_,h=>by
   simp only[aF.rep] at h ⊢;rw[he.blk b hb];exact h
 | .img _ _,_,⟨cs,h1,h2⟩=>by
   refine⟨cs,?_,h2⟩;rw[he.blk b hb];exact h1
theorem aF.ok.mono {n m:Nat}(h:n≤m):∀{k:aF},k.ok n→k.ok m
 | .cells vals _ _,ho=>oks.mono h vals ho
 | .map _ _,ho=>fun x hx=>⟨AV.ok.mono h _ (ho x hx).1,AV.ok.mono h _ (ho x hx).2⟩
 | .lS _,ho=>fun x hx=>⟨AV.ok.mono h _ (ho x hx).1,AV.ok.mono h _ (ho x hx).2⟩
 | .oP _ _,_=>trivial
 | .nV _ _ _ _,ho=>zZ ho h
 | .loop _ _ _ _ _ _ _,ho=>fun i=>AV.ok.mono h _ (ho i)
 | .Tm,_=>trivial
 | .img _ _,_=>trivial
theorem aF.Aj {n:Nat}{ρ ρ':Env}{w w':World}{b:Nat}{k:aF}(hh:w'.heap[ρ.blk b]? =w.heap[ρ.blk b]?)(he:Ext n ρ ρ')(hb:b < n)(ho:k.ok n)(h:k.rep ρ w b):k.rep ρ' w' b:=(h.heap hh).ext he hb ho
structure AW where
 nx:Nat
 bl:List (Nat×aF)
 az:List Nat
 gl:List (Nat×List Value)
structure aJ (w0:World)(ρ:Env)(W:AW)(w:World):Prop where
 below:Below w0.heap.size w0 w
 ok:∀b k,au b W.bl=some k→b < W.nx∧k.ok W.nx∧w0.heap.size≤ρ.blk b∧ρ.blk b < w.heap.size
 inj:∀b b' k k',au b W.bl=some k→au b' W.bl=some k'→ρ.blk b=ρ.blk b'→b=b'
 rep:∀b k,au b W.bl=some k→k.rep ρ w b
 ng:(W.bl.map (·.1)).Nodup
 gl:∀g l,au g W.gl=some l→∀(j:Nat) (v:Value),l[j]? =some v→w0.cell? ⟨g,j,none⟩=some v
structure Gr (w w':World)(M:Nat→Prop):Prop where
 os:w'.os=w.os
 tape:w'.tape=w.tape
 output:w'.output=w.output
 size:w.heap.size≤w'.heap.size
 block:∀i,i < w.heap.size→¬M i→w'.heap[i]? =w.heap[i]?
theorem Gr.refl (w:World)(M:Nat→Prop):Gr w w M:=⟨rfl,rfl,rfl,zn _,fun _ _ _=>rfl⟩
theorem Gr.trans {a b c:World}{M:Nat→Prop}(h:Gr a b M)(k:Gr b c M):Gr a c M:=
 ⟨k.os.trans h.os,k.tape.trans h.tape,k.output.trans h.output,zV h.size k.size,fun i hi hm=>(k.block i (zZ hi h.size) hm).trans (h.block i hi hm)⟩
theorem Gr.mono {a b:World}{M N:Nat→Prop}(h:Gr a b M)(hm:∀i,i < a.heap.size→M i→N i):Gr a b N:=⟨h.os,h.tape,h.output,h.size,fun i hi hn=>h.block i hi fun m=>hn (hm i hi m)⟩
theorem Gr.below {a b:World}{M:Nat→Prop}{B:Nat}(h:Gr a b M)(hB:B≤a.heap.size)(hm:∀i,M i→B≤i):Below B a b:=
 ⟨h.os,h.tape,h.output,h.size,fun i hi=>h.block i zy fun m=>by have:=hm i m;omega⟩
theorem Gr.mF {a b:World}{row:Option Nat}(h:a.grownBy b row):Gr a b (fun i=>row=some i):=
 ⟨h.os,h.tape,h.output,h.size,fun i hi hm=>h.block i hi fun e=>hm e.symm⟩
def fV (ρ:Env)(W W':AW)(i:Nat):Prop:=∃b,b∈W'.az∧b < W.nx∧ρ.blk b=i
structure Post (w0:World)(ρ:Env)(W:AW)(w:World)(ρ':Env)(W':AW)(w':World):Prop where
 ext:Ext W.nx ρ ρ'
 nx:W.nx≤W'.nx
 az:∀b,b∈W.az→b∈W'.az
 gr:Gr w w' (fV ρ W W')
 fresh:∀b,W.nx≤b→b < W'.nx→ρ'.blk b < w.heap.size→fV ρ W W' (ρ'.blk b)
 rep:aJ w0 ρ' W' w'
 dom:∀b,b < W.nx→(au b W'.bl).isSome=true→(au b W.bl).isSome=true
 old:∀b,b < W.nx→b∈W'.az→b∈W.az∨(au b W.bl).isSome=true
 gl:W'.gl=W.gl
theorem Post.refl {w0:World}{ρ:Env}{W:AW}{w:World}(h:aJ w0 ρ W w):Post w0 ρ W w ρ W w:=
 ⟨Ext.refl _ _,zn _,fun _ h=>h,Gr.refl _ _,fun b h1 h2=>zy,h,fun _ _ h=>h,fun _ _ h=>.inl h,rfl⟩
theorem Post.trans {w0:World}{ρ ρ' ry:Env}{W W' W'':AW}{w w' w'':World}(h:Post w0 ρ W w ρ' W' w')(k:Post w0 ρ' W' w' ry W'' w''):Post w0 ρ W w ry W'' w'':=by
 have key:∀i,i < w.heap.size→fV ρ' W' W'' i→fV ρ W W'' i:=by
  rintro i hi ⟨b,hb,hlt,rfl⟩;by_cases hbn:b < W.nx
  ·exact⟨b,hb,hbn,(h.ext.blk b hbn).symm⟩
  ·obtain⟨b0,h1,h2,h3⟩:=h.fresh b zy hlt hi;exact⟨b0,k.az _ h1,h2,h3⟩
 refine⟨h.ext.trans k.ext h.nx,zV h.nx k.nx,fun b hb=>k.az b (h.az b hb),?_,?_,k.rep,fun b hb hs=>h.dom b hb (k.dom b (zZ hb h.nx) hs),fun b hb hm=>?_,k.gl.trans h.gl⟩
 rotate_left 2
 ·rcases k.old b (zZ hb h.nx) hm with h1|h1
  ·exact h.old b hb h1
  ·exact .inr (h.dom b hb h1)
 ·exact⟨k.gr.os.trans h.gr.os,k.gr.tape.trans h.gr.tape,k.gr.output.trans h.gr.output,zV h.gr.size k.gr.size,
   fun i hi hm=>(k.gr.block i (zZ hi h.gr.size) fun n=>hm (key i hi n)).trans (h.gr.block i hi fun ⟨b,h1,h2,h3⟩=>hm ⟨b,k.az _ h1,h2,h3⟩)⟩
 ·intro b h1 h2 h3;by_cases hb:b < W'.nx
  ·rw[k.ext.blk b hb] at h3 ⊢;obtain⟨b0,q1,q2,q3⟩:=h.fresh b h1 hb h3;exact⟨b0,k.az _ q1,q2,q3⟩
  ·exact key _ h3 (k.fresh b zy h2 (zZ h3 h.gr.size))
def Env.up (ρ:Env)(n g c:Nat):Env:={ blk:=fun b=>if b=n then g else ρ.blk b,cap:=fun b=>if b=n then c else ρ.cap b,es:=ρ.es}
theorem Env.gu (ρ:Env)(n g c:Nat):Ext n ρ (ρ.up n g c):=⟨fun b hb=>by simp[Env.up,Nat.ne_of_lt hb],fun b hb=>by simp[Env.up,Nat.ne_of_lt hb],fun _ _=>rfl⟩
theorem Env.aM (ρ:Env)(n g c:Nat):(ρ.up n g c).blk n=g:=by simp[Env.up]
theorem Env.bX (ρ:Env)(n g c:Nat):(ρ.up n g c).cap n=c:=by simp[Env.up]
theorem aJ.quiet {w0:World}{ρ:Env}{W:AW}{w w':World}(h:aJ w0 ρ W w)(hg:Gr w w' (fun _=>False)):Post w0 ρ W w ρ W w':=by
 have hB:Below w0.heap.size w0 w':=h.below.trans (hg.below h.below.size fun _ hf=>hf.elim)
 have hk:∀b k,au b W.bl=some k→w'.heap[ρ.blk b]? =w.heap[ρ.blk b]?:=fun b k hb=>hg.block _ (h.ok b k hb).2.2.2 id
 refine⟨Ext.refl _ _,zn _,fun _ h=>h,hg.mono fun _ _ hf=>hf.elim,fun b h1 h2=>zy,⟨hB,fun b k hb=>?_,h.inj,fun b k hb=>(h.rep b k hb).heap (hk b k hb),h.ng,h.gl⟩,fun _ _ h=>h,fun _ _ h=>.inl h,rfl⟩
 obtain⟨h1,h2,h3,h4⟩:=h.ok b k hb;exact⟨h1,h2,h3,zZ h4 hg.size⟩
theorem aJ.JR {w0:World}{ρ:Env}{W:AW}{w:World}(h:aJ w0 ρ W w){p:Nat×aF}(hp:p∈W.bl):p.1 < W.nx:=(h.ok p.1 p.2 (eP h.ng hp)).1
theorem aJ.Sd {w0:World}{ρ:Env}{W:AW}{w:World}(h:aJ w0 ρ W w)(k:aF):(((W.nx,k)::W.bl).map (·.1)).Nodup:=by
 rw[zO,yA];refine⟨fun hm=>?_,h.ng⟩
 obtain⟨p,hp,e⟩:=zX.1 hm;have:=h.JR hp;omega
def iN (b:Nat):List Nat→Bool
 |[]=>false
 |x::l=>cond (Nat.beq x b) true (iN b l)
theorem nH {b:Nat}:∀{l:List Nat},iN b l=false→b ∉ l
 |[],_=>by simp
 |x::l,h=>by
  by_cases hx:x=b
  ·subst hx;simp[iN] at h
  ·simp only[iN,eQ hx,cond_false] at h;intro hm;rcases zQ.1 hm with rfl|hm
   ·exact hx rfl
   ·exact nH h hm
theorem jy {b:Nat}:∀{l:List Nat},iN b l=true→b∈l
 |x::l,h=>by
  by_cases hx:x=b
  ·subst hx;exact zb
  ·simp only[iN,eQ hx,cond_false] at h;exact ze _ (jy h)
def addN (b:Nat)(l:List Nat):List Nat:=cond (iN b l) l (b::l)
theorem dJ (b x:Nat)(l:List Nat):x∈addN b l↔x=b∨x∈l:=by
 unfold addN
 cases h:iN b l
 ·simp
 ·simp only[cond_true];exact⟨.inr,fun e=>e.elim (fun e=>e ▸ jy h) id⟩
theorem aJ.new {w0:World}{ρ:Env}{W:AW}{w w':World}{g c:Nat}{k:aF}(h:aJ w0 ρ W w)(hg:Gr w w' (fun _=>False))(h1:w.heap.size≤g)(h2:g < w'.heap.size)(hk:k.ok W.nx)(hr:k.rep (ρ.up W.nx g c) w' W.nx):
 Post w0 ρ W w (ρ.up W.nx g c) ⟨W.nx+1,(W.nx,k)::W.bl,W.az,W.gl⟩ w':=by
 have hB:Below w0.heap.size w0 w':=h.below.trans (hg.below h.below.size fun _ hf=>hf.elim)
 have he:=Env.gu ρ W.nx g c;have hne:∀b k',au b W.bl=some k'→W.nx≠b:=fun b k' hb e=>by have:=(h.ok b k' hb).1;omega
 have hget:∀b k',au b ((W.nx,k)::W.bl)=some k'→(b=W.nx∧k'=k)∨(b < W.nx∧au b W.bl=some k'):=fun b k' hb=>by
  by_cases e:W.nx=b
  ·subst e;rw[aA] at hb;exact .inl ⟨rfl,(zq hb).symm⟩
  ·rw[aD _ _ e] at hb;exact .inr ⟨(h.ok b k' hb).1,hb⟩
 refine⟨he,yY _,fun _ h=>h,hg.mono fun _ _ hf=>hf.elim,fun b q1 q2 q3=>?_,⟨hB,fun b k' hb=>?_,fun b b' k1 k2 hb hb' e=>?_,fun b k' hb=>?_,h.Sd k,h.gl⟩,fun b hb hs=>?_,fun _ _ h=>.inl h,rfl⟩
 ·have:b=W.nx:=by have:b < W.nx+1:=q2;omega
  subst this;rw[Env.aM] at q3;omega
 ·rcases hget b k' hb with⟨rfl,rfl⟩|⟨hlt,hb⟩
  ·refine⟨zS _,aF.ok.mono (yY _) hk,?_,?_⟩
   ·rw[Env.aM];exact zV h.below.size h1
   ·rw[Env.aM];exact h2
  ·obtain⟨q1,q2,q3,q4⟩:=h.ok b k' hb;rw[he.blk b hlt];exact⟨xB q1,aF.ok.mono (yY _) q2,q3,zZ q4 hg.size⟩
 ·rcases hget b k1 hb with⟨rfl,rfl⟩|⟨hlt,hb1⟩<;>rcases hget b' k2 hb' with⟨rfl,rfl⟩|⟨hlt',hb1'⟩
  ·rfl
  ·rw[Env.aM,he.blk b' hlt'] at e;have:=(h.ok b' k2 hb1').2.2.2;omega
  ·rw[Env.aM,he.blk b hlt] at e;have:=(h.ok b k1 hb1).2.2.2;omega
  ·rw[he.blk b hlt,he.blk b' hlt'] at e;exact h.inj b b' k1 k2 hb1 hb1' e
 ·rcases hget b k' hb with⟨rfl,rfl⟩|⟨hlt,hb⟩
  ·exact hr
  ·refine aF.Aj ?_ he hlt (h.ok b k' hb).2.1 (h.rep b k' hb);exact hg.block _ (h.ok b k' hb).2.2.2 id
 ·rwa [aD _ _ (fun e=>zy)] at hs
theorem aJ.write {w0:World}{ρ:Env}{W:AW}{w w':World}{b0:Nat}{k0 k:aF}(h:aJ w0 ρ W w)(hb0:au b0 W.bl=some k0)(hg:Gr w w' (fun i=>ρ.blk b0=i))(hk:k.ok W.nx)(hr:k.rep ρ w' b0):
 Post w0 ρ W w ρ ⟨W.nx,ib b0 k W.bl,addN b0 W.az,W.gl⟩ w':=by
 obtain⟨p1,p2,p3,p4⟩:=h.ok b0 k0 hb0;have hB:Below w0.heap.size w0 w':=h.below.trans (hg.below h.below.size fun i e=>by subst e;exact p3)
 have hget:∀b k',au b (ib b0 k W.bl)=some k'→(b=b0∧k'=k)∨(b≠b0∧au b W.bl=some k'):=fun b k' hb=>by
  by_cases e:b0=b
  ·subst e;rw[pX k W.bl hb0] at hb;exact .inl ⟨rfl,(zq hb).symm⟩
  ·rw[nY k e] at hb;exact .inr ⟨fun e'=>e e'.symm,hb⟩
 have hdom:∀b k',au b (ib b0 k W.bl)=some k'→∃k'',au b W.bl=some k'':=fun b k' hb=>by
  rcases hget b k' hb with⟨rfl,_⟩|⟨_,hb⟩
  ·exact⟨_,hb0⟩
  ·exact⟨_,hb⟩
 refine⟨Ext.refl _ _,zn _,fun _ h=>(dJ _ _ _).2 (.inr h),hg.mono fun i _ e=>⟨b0,(dJ _ _ _).2 (.inl rfl),p1,e⟩,fun b q1 q2=>by have:b < W.nx:=q2;omega,⟨hB,fun b k' hb=>?_,fun b b' k1 k2 hb hb' e=>?_,fun b k' hb=>?_,by rw[Iz];exact h.ng,h.gl⟩,fun b _ hs=>?_,fun b _ hm=>?_,rfl⟩
 ·rcases hget b k' hb with⟨rfl,rfl⟩|⟨_,hb⟩
  ·exact⟨p1,hk,p3,zZ p4 hg.size⟩
  ·obtain⟨q1,q2,q3,q4⟩:=h.ok b k' hb;exact⟨q1,q2,q3,zZ q4 hg.size⟩
 ·obtain⟨_,e1⟩:=hdom b k1 hb;obtain⟨_,e2⟩:=hdom b' k2 hb';exact h.inj b b' _ _ e1 e2 e
 ·rcases hget b k' hb with⟨rfl,rfl⟩|⟨hne,hb⟩
  ·exact hr
  ·exact (h.rep b k' hb).heap (hg.block _ (h.ok b k' hb).2.2.2 fun e=>hne (h.inj b0 b _ _ hb0 hb e).symm)
 ·obtain⟨k',hk'⟩:=z8.1 hs;obtain⟨_,e⟩:=hdom b k' hk';rw[e];rfl
 ·rcases (dJ _ _ _).1 hm with rfl|hm
  ·exact .inr (by rw[hb0];rfl)
  ·exact .inl hm
theorem aJ.turn {w0:World}{ρ:Env}{W:AW}{w w':World}{b0 g c:Nat}{k0 k:aF}(h:aJ w0 ρ W w)(hb0:au b0 W.bl=some k0)(hg:Gr w w' (fun i=>ρ.blk b0=i))(h1:g=ρ.blk b0∨w.heap.size≤g)(h2:g < w'.heap.size)(hk:k.ok W.nx)(hr:k.rep (ρ.up W.nx g c) w' W.nx):
 Post w0 ρ W w (ρ.up W.nx g c) ⟨W.nx+1,(W.nx,k)::uU b0 W.bl,addN b0 W.az,W.gl⟩ w':=by
 obtain⟨p1,p2,p3,p4⟩:=h.ok b0 k0 hb0;have hB:Below w0.heap.size w0 w':=h.below.trans (hg.below h.below.size fun i e=>by subst e;exact p3)
 have he:=Env.gu ρ W.nx g c
 have hget:∀b k',au b ((W.nx,k)::uU b0 W.bl)=some k'→(b=W.nx∧k'=k)∨(b < W.nx∧b≠b0∧au b W.bl=some k'):=fun b k' hb=>by
  by_cases e:W.nx=b
  ·subst e;rw[aA] at hb;exact .inl ⟨rfl,(zq hb).symm⟩
  ·rw[aD _ _ e] at hb;obtain⟨q1,q2⟩:=jl h.ng hb;exact .inr ⟨(h.ok b k' q2).1,q1,q2⟩
 have hkeep:∀b k',b≠b0→au b W.bl=some k'→ρ.blk b0≠ρ.blk b:=fun b k' hne hb e=>hne (h.inj b0 b _ _ hb0 hb e).symm
 refine⟨he,yY _,fun _ h=>(dJ _ _ _).2 (.inr h),hg.mono fun i _ e=>⟨b0,(dJ _ _ _).2 (.inl rfl),p1,e⟩,fun b q1 q2 q3=>?_,⟨hB,fun b k' hb=>?_,fun b b' k1 k2 hb hb' e=>?_,fun b k' hb=>?_,?_,h.gl⟩,fun b hb hs=>?_,fun b _ hm=>?_,rfl⟩
 ·have:b=W.nx:=by have:b < W.nx+1:=q2;omega
  subst this;rw[Env.aM] at q3 ⊢;rcases h1 with h1|h1
  ·exact⟨b0,(dJ _ _ _).2 (.inl rfl),p1,h1.symm⟩
  ·omega
 ·rcases hget b k' hb with⟨rfl,rfl⟩|⟨hlt,hne,hb⟩
  ·refine⟨zS _,aF.ok.mono (yY _) hk,?_,?_⟩
   ·rw[Env.aM];rcases h1 with h1|h1
    ·rw[h1];exact p3
    ·exact zV h.below.size h1
   ·rw[Env.aM];exact h2
  ·obtain⟨q1,q2,q3,q4⟩:=h.ok b k' hb;rw[he.blk b hlt];exact⟨xB q1,aF.ok.mono (yY _) q2,q3,zZ q4 hg.size⟩
 ·have far:∀b k',b < W.nx→b≠b0→au b W.bl=some k'→g≠ρ.blk b:=fun b k' _ hne hb e=>by
   rcases h1 with h1|h1
   ·exact hkeep b k' hne hb (h1.symm.trans e)
   ·have:=(h.ok b k' hb).2.2.2;omega
  rcases hget b k1 hb with⟨rfl,rfl⟩|⟨hlt,hne,hb1⟩<;>rcases hget b' k2 hb' with⟨rfl,rfl⟩|⟨hlt',hne',hb1'⟩
  ·rfl
  ·rw[Env.aM,he.blk b' hlt'] at e;exact (far b' k2 hlt' hne' hb1' e).elim
  ·rw[Env.aM,he.blk b hlt] at e;exact (far b k1 hlt hne hb1 e.symm).elim
  ·rw[he.blk b hlt,he.blk b' hlt'] at e;exact h.inj b b' k1 k2 hb1 hb1' e
 ·rcases hget b k' hb with⟨rfl,rfl⟩|⟨hlt,hne,hb⟩
  ·exact hr
  ·refine aF.Aj ?_ he hlt (h.ok b k' hb).2.1 (h.rep b k' hb);exact hg.block _ (h.ok b k' hb).2.2.2 (hkeep b k' hne hb)
 ·have hs:=uT b0 W.bl;rw[zO,yA];refine⟨fun hm=>?_,(hs.map _).nodup h.ng⟩
  obtain⟨p,hp,e⟩:=zX.1 hm;have:=h.JR (hs.subset hp);omega
 ·rw[aD _ _ (fun e=>zy)] at hs
  obtain⟨k',hk'⟩:=z8.1 hs;rw[(jl h.ng hk').2];rfl
 ·rcases (dJ _ _ _).1 hm with rfl|hm
  ·exact .inr (by rw[hb0];rfl)
  ·exact .inl hm
theorem aJ.kill {w0:World}{ρ:Env}{W:AW}{w w':World}{b0:Nat}{k0:aF}(h:aJ w0 ρ W w)(hb0:au b0 W.bl=some k0)(hg:Gr w w' (fun i=>ρ.blk b0=i)):
 Post w0 ρ W w ρ ⟨W.nx,uU b0 W.bl,addN b0 W.az,W.gl⟩ w':=by
 obtain⟨p1,p2,p3,p4⟩:=h.ok b0 k0 hb0;have hB:Below w0.heap.size w0 w':=h.below.trans (hg.below h.below.size fun i e=>by subst e;exact p3)
 refine⟨Ext.refl _ _,zn _,fun _ h=>(dJ _ _ _).2 (.inr h),hg.mono fun i _ e=>⟨b0,(dJ _ _ _).2 (.inl rfl),p1,e⟩,fun b q1 q2=>by have:b < W.nx:=q2;omega,⟨hB,fun b k' hb=>?_,fun b b' k1 k2 hb hb' e=>?_,fun b k' hb=>?_,?_,h.gl⟩,fun b _ hs=>?_,fun b _ hm=>?_,rfl⟩
 ·obtain⟨q1,q2,q3,q4⟩:=h.ok b k' (jl h.ng hb).2;exact⟨q1,q2,q3,zZ q4 hg.size⟩
 ·exact h.inj b b' _ _ (jl h.ng hb).2 (jl h.ng hb').2 e
 ·obtain⟨hne,hb⟩:=jl h.ng hb;exact (h.rep b k' hb).heap (hg.block _ (h.ok b k' hb).2.2.2 fun e=>hne (h.inj b0 b _ _ hb0 hb e).symm)
 ·exact ((uT b0 W.bl).map _).nodup h.ng
 ·obtain⟨k',hk'⟩:=z8.1 hs;rw[(jl h.ng hk').2];rfl
 ·rcases (dJ _ _ _).1 hm with rfl|hm
  ·exact .inr (by rw[hb0];rfl)
  ·exact .inl hm
theorem aJ.drop {w0:World}{ρ:Env}{W:AW}{w:World}(h:aJ w0 ρ W w)(bl:List (Nat×aF))(hb:bl.Sublist W.bl):aJ w0 ρ ⟨W.nx,bl,W.az,W.gl⟩ w:=
 ⟨h.below,fun b k hk=>h.ok b k (mX h.ng hb hk),fun b b' k k' h1 h2=>h.inj b b' k k' (mX h.ng hb h1) (mX h.ng hb h2),fun b k hk=>h.rep b k (mX h.ng hb hk),(hb.map _).nodup h.ng,h.gl⟩
inductive Kd where
 |struct (fs:List (Nat×Nat×Nat))
 |array (n e sz:Nat)
 |slice (e sz bytes:Nat)
 |map (k e:Nat)
 |string
 |ptr (e:Nat)
 |int (k:IntKind)
 |LG
 |func
 |other
structure su where
 kd:Kd
 row:Bool
 size:Nat
 zero:List Value
abbrev bH:=Tr su
def kZ (P:Program)(t s:Nat):Bool:=(P.info? t).map (·.size) == some s
def Hu (P:Program)(d:TypeDesc):Kd→Bool
 | .struct fs=>match d with | .struct fields=>(fields.toList.map fun f=>(f.offset,f.type)) == (fs.map fun x=>(x.1,x.2.1)) && fs.all (fun x=>kZ P x.2.1 x.2.2 && decide (0 < x.2.2))|_=>false
 | .array n e sz=>match d with | .array n' e'=>n' == n && e' == e && kZ P e sz|_=>false
 | .slice e sz uZ=>match d with | .slice e'=>e' == e && kZ P e sz && (P.info? e).map (·.bytes) == some uZ && decide (0 < sz)|_=>false
 | .map k e=>match d with | .map k' e'=>k' == k && e' == e|_=>false
 | .string=>match d with | .string=>true|_=>false
 | .ptr e=>match d with | .pointer e'=>e' == e|_=>false
 | .int k=>match d with | .int k'=>k' == k|_=>false
 | .LG=>match d with | .unsafePointer=>true|_=>false
 | .func=>match d with | .func .. =>true|_=>false
 | .other=>match d with | .interface _=>false|_=>true
structure oC (P:Program)(t:Nat)(i:su):Prop where
 under:∃d,P.underlying t=some d∧d.isRow=i.row∧Hu P d i.kd=true
 info:∃f z,P.info? t=some f∧f.size=i.size∧f.zero=some z∧z.cells.toList=i.zero
 one:i.row=false→∃f z,P.info? t=some f∧f.zero=some z∧i.zero=[z]
 agg:i.row=true→∃f,P.info? t=some f∧f.zero=some (.agg i.zero.toArray)
def aZ (P:Program)(T:bH):Prop:=∀t i,T.get t=some i→oC P t i
section
variable {P:Program} {t:Nat} {i:su}
theorem oC.size (h:oC P t i):(P.info? t).map (·.size)=some i.size:=by
 obtain⟨f,z,h1,h2,_⟩:=h.info;rw[h1,yN,h2]
theorem oC.sizeOf (h:oC P t i)(w:World):(Go.sizeOf t).run P w= .ok i.size w:=by
 obtain⟨f,z,h1,h2,_⟩:=h.info;simp[Go.sizeOf,typeInfo,h1,h2]
theorem gp {s:Nat}(h:kZ P t s=true)(w:World):(Go.sizeOf t).run P w= .ok s w:=by
 unfold kZ at h
 cases hq:P.info? t with
 |none=>simp[hq] at h
 |some f=>simp[hq] at h;simp[Go.sizeOf,typeInfo,hq,h]
theorem oC.struct (h:oC P t i){fs:List (Nat×Nat×Nat)}(hk:i.kd= .struct fs):∃fields,P.underlying t=some (.struct fields)∧fields.toList.map (fun f=>(f.offset,f.type))=fs.map (fun x=>(x.1,x.2.1))∧∀x∈fs,kZ P x.2.1 x.2.2=true∧0 < x.2.2:=by
 obtain⟨d,h1,_,h3⟩:=h.under;rw[hk] at h3
 cases d<;>simp only[Hu,Bool.false_eq_true] at h3;simp only[Bool.and_eq_true,beq_iff_eq,List.all_eq_true,decide_eq_true_eq] at h3;exact⟨_,h1,h3.1,h3.2⟩
theorem oC.slice (h:oC P t i){e sz uZ:Nat}(hk:i.kd= .slice e sz uZ):P.underlying t=some (.slice e)∧kZ P e sz=true∧(P.info? e).map (·.bytes)=some uZ∧0 < sz:=by
 obtain⟨d,h1,_,h3⟩:=h.under;rw[hk] at h3
 cases d<;>simp only[Hu,Bool.false_eq_true] at h3;simp only[Bool.and_eq_true,beq_iff_eq,decide_eq_true_eq] at h3;obtain⟨⟨⟨rfl,h4⟩,h5⟩,h6⟩:=h3;exact⟨h1,h4,h5,h6⟩
theorem oC.array (h:oC P t i){n e sz:Nat}(hk:i.kd= .array n e sz):P.underlying t=some (.array n e)∧kZ P e sz=true:=by
 obtain⟨d,h1,_,h3⟩:=h.under;rw[hk] at h3
 cases d<;>simp only[Hu,Bool.false_eq_true] at h3;simp only[Bool.and_eq_true,beq_iff_eq] at h3;obtain⟨⟨rfl,rfl⟩,h4⟩:=h3;exact⟨h1,h4⟩
theorem oC.string (h:oC P t i)(hk:i.kd= .string):P.underlying t=some .string:=by
 obtain⟨d,h1,_,h3⟩:=h.under;rw[hk] at h3
 cases d<;>simp only[Hu,Bool.false_eq_true] at h3;exact h1
theorem oC.ptr (h:oC P t i){e:Nat}(hk:i.kd= .ptr e):P.underlying t=some (.pointer e):=by
 obtain⟨d,h1,_,h3⟩:=h.under;rw[hk] at h3
 cases d<;>simp only[Hu,Bool.false_eq_true] at h3;simp only[beq_iff_eq] at h3;subst h3;exact h1
theorem oC.int (h:oC P t i){k:IntKind}(hk:i.kd= .int k):P.underlying t=some (.int k):=by
 obtain⟨d,h1,_,h3⟩:=h.under;rw[hk] at h3
 cases d<;>simp only[Hu,Bool.false_eq_true] at h3;simp only[beq_iff_eq] at h3;subst h3;exact h1
theorem oC.map (h:oC P t i){k e:Nat}(hk:i.kd= .map k e):P.underlying t=some (.map k e):=by
 obtain⟨d,h1,_,h3⟩:=h.under;rw[hk] at h3
 cases d<;>simp only[Hu,Bool.false_eq_true] at h3;simp only[Bool.and_eq_true,beq_iff_eq] at h3;obtain⟨rfl,rfl⟩:=h3;exact h1
theorem oC.LG (h:oC P t i)(hk:i.kd= .LG):P.underlying t=some .unsafePointer:=by
 obtain⟨d,h1,_,h3⟩:=h.under;rw[hk] at h3
 cases d<;>simp only[Hu,Bool.false_eq_true] at h3;exact h1
theorem oC.func (h:oC P t i)(hk:i.kd= .func):∃a b c,P.underlying t=some (.func a b c):=by
 obtain⟨d,h1,_,h3⟩:=h.under;rw[hk] at h3
 cases d<;>simp only[Hu,Bool.false_eq_true] at h3;exact⟨_,_,_,h1⟩
theorem oC.YP (h:oC P t i):∃d,P.underlying t=some d∧∀ms,d≠ .interface ms:=by
 obtain⟨d,h1,_,h3⟩:=h.under;refine⟨d,h1,fun ms e=>?_⟩
 subst e
 cases hk:i.kd<;>rw[hk] at h3<;>simp[Hu] at h3
theorem addr_add (b o j:Nat):(⟨b,o,none⟩:Addr).add j=⟨b,o+j,none⟩:=by
 unfold Addr.add;split
 ·rename_i h;subst h;rfl
 ·rfl
theorem oQ (h:oC P t i){fs:List (Nat×Nat×Nat)}(hk:i.kd= .struct fs){f:Nat}{x:Nat×Nat×Nat}(hf:fs[f]? =some x)(b o:Nat)(w:World):
 (Instr.fieldAt t (.pointer (some ⟨b,o,none⟩)) f).run P w= .ok (.pointer (some ⟨b,o+x.1,none⟩)) w:=by
 obtain⟨fields,h1,h2,h3⟩:=h.struct hk;have hlt:f < fs.length:=(zf.1 hf).1;have hl:fields.size=fs.length:=by have:=yV List.length h2;simpa using this
 have hx:=h3 x (zD hf);have e2:(fields.toList.map (fun f=>(f.offset,f.type)))[f]? =(fs.map (fun x=>(x.1,x.2.1)))[f]?:=by rw[h2]
 rw[yh,yh,hf,yN] at e2
 cases hq:fields.toList[f]? with
 |none=>rw[hq] at e2;cases e2
 |some fd=>
  rw[hq] at e2;have e3:fields[f]? =some fd:=by rw[← xZ];exact hq
  simp only[Option.map_some,Option.some.injEq,Prod.mk.injEq] at e2;have hs:=gp hx.1 w;rw[← e2.2] at hs;have hne:¬x.2.2=0:=zy;simp[Instr.fieldAt,run_underlying h1,e3,Instr.sureAddr,fieldPlace,hs,hne,e2.1,addr_add]
theorem Dm (h:oC P t i){e sz uZ:Nat}(hk:i.kd= .slice e sz uZ){n c j:Nat}(hj:j < n)(k:IntKind)(b o:Nat)(w:World):
 (Instr.indexAt t (.slice (some ⟨b,o,none⟩) n c) (.int k (j:Int))).run P w= .ok (.pointer (some ⟨b,o+j * sz,none⟩)) w:=by
 obtain⟨h1,h2,_,_⟩:=h.slice hk;have hs:=gp h2 w;simp[Instr.indexAt,asIntOf,run_underlying h1,hj,hs,addr_add]
theorem qU (h:oC P t i){n e sz:Nat}(hk:i.kd= .array n e sz){j:Nat}(hj:j < n)(k:IntKind)(b o:Nat)(w:World):
 (Instr.indexAt t (.pointer (some ⟨b,o,none⟩)) (.int k (j:Int))).run P w= .ok (.pointer (some ⟨b,o+j * sz,none⟩)) w:=by
 obtain⟨h1,h2⟩:=h.array hk;have hs:=gp h2 w;simp[Instr.indexAt,asIntOf,run_underlying h1,hj,hs,Instr.sureAddr,addr_add]
end
def gX:Value→AV
 | .bool b=>.bool b
 | .int k n=>.int k n
 | .string s=>.str (s.data.toList.map (·.toNat))
 | .pointer none=>.bU
 | .slice none 0 0=>.bT
 |v=>.raw v
theorem afl (s:ByteArray):ag (s.data.toList.map (·.toNat))=s:=by
 unfold ag;rw[yC];have e:(UInt8.ofNat ∘ fun x:UInt8=>x.toNat)=id:=by funext x;simp
 rw[e,vz]
theorem qH (ρ:Env)(v:Value):cv ρ (gX v)=v:=by
 unfold gX;split<;>simp only[cv,afl]
theorem nQ (n:Nat)(v:Value):(gX v).ok n:=by
 unfold gX;split<;>trivial
def avD:Value→AV
 | .agg cs=>.agg (cs.toList.map gX)
 | .tuple vs=>.tuple (vs.toList.map fun v=>match v with | .agg cs=>.agg (cs.toList.map gX)|v=>gX v)
 |v=>gX v
theorem kL (ρ:Env)(l:List Value):aH ρ (l.map gX)=l:=by
 rw[bz,yC];have e:(cv ρ ∘ gX)=id:=by funext v;simp[qH]
 rw[e,vz]
theorem iq (n:Nat)(l:List Value):oks n (l.map gX):=(bQ _ _).2 fun v hv=>by
 obtain⟨u,_,rfl⟩:=zX.1 hv;exact nQ n u
theorem aaW (ρ:Env)(v:Value):cv ρ (avD v)=v:=by
 unfold avD;split
 ·rw[cv,kL]
 ·rename_i vs;rw[cv,bz,yC]
  have e:(cv ρ ∘ fun v:Value=>match v with | .agg cs=>AV.agg (cs.toList.map gX)|v=>gX v)=id:=by
   funext v
   simp only[Function.comp_apply,id];split
   ·rw[cv,kL]
   ·exact qH ρ _
  rw[e,vz]
 ·exact qH ρ _
theorem abt (n:Nat)(v:Value):(avD v).ok n:=by
 unfold avD;split
 ·exact iq n _
 ·refine (bQ _ _).2 fun v hv=>?_
  obtain⟨u,_,rfl⟩:=zX.1 hv;split
  ·exact iq n _
  ·exact nQ n _
 ·exact nQ n _
def Rm (i:su):Option AV:=cond i.row (some (.agg (i.zero.map gX))) (match i.zero with|[z]=>some (gX z)|_=>none)
theorem Gc {P:Program}{t:Nat}{i:su}(h:oC P t i){v:AV}(hz:Rm i=some v)(ρ:Env)(n:Nat)(w:World):(zeroValue t).run P w= .ok (cv ρ v) w∧v.ok n:=by
 unfold Rm at hz
 cases hr:i.row with
 |true=>
  rw[hr] at hz;obtain rfl:=zq hz;obtain⟨f,hf,hfz⟩:=h.agg hr;refine⟨?_,iq n _⟩;simp[zeroValue,typeInfo,hf,hfz,cv,kL]
 |false=>
  rw[hr] at hz;obtain⟨f,z,hf,hfz,hzz⟩:=h.one hr;simp only[cond_false] at hz;split at hz
  ·rename_i z' hz';obtain rfl:=zq hz;obtain rfl:=(yP (hz'.symm.trans hzz)).1;refine⟨?_,nQ n _⟩;simp[zeroValue,typeInfo,hf,hfz,qH]
  ·cases hz
mutual
def gv:AV→Option Value
 | .raw v=>some v
 | .sym _ x=>some (.int .i64 x)
 | .bool b=>some (.bool b)
 | .int k n=>some (.int k n)
 | .str l=>some (.string (ag l))
 | .bU=>some (.pointer none)
 | .jK g o=>some (.pointer (some ⟨g,o,none⟩))
 | .bT=>some (.slice none 0 0)
 | .agg l=>(gvs l).map fun l=>.agg l.toArray
 | .tuple l=>(gvs l).map fun l=>.tuple l.toArray
 |_=>none
def gvs:List AV→Option (List Value)
 |[]=>some []
 |v::l=>match gv v with
  |some v=>(gvs l).map fun l=>v::l
  |none=>none
end
mutual
theorem agF (ρ:Env):∀(v:AV) {u:Value},gv v=some u→cv ρ v=u
 | .raw _,_,h | .sym _ _,_,h | .bool _,_,h | .int _ _,_,h | .str _,_,h | .bU,_,h | .jK _ _,_,h | .bT,_,h=>by simp only[gv,Option.some.injEq] at h;rw[cv,h]
 | .agg l,u,h=>by
   simp only[gv,Option.map_eq_some_iff] at h;obtain⟨l',h1,rfl⟩:=h;rw[cv,J6 ρ l h1]
 | .tuple l,u,h=>by
   simp only[gv,Option.map_eq_some_iff] at h;obtain⟨l',h1,rfl⟩:=h;rw[cv,J6 ρ l h1]
 | .ptr _ _,_,h | .slice _ _ _ _ _,_,h | .FI _,_,h | .map _,_,h | .Bi _,_,h | .uK _,_,h | .fn _ _ _,_,h | .iface _ _,_,h=>by simp[gv] at h
theorem J6 (ρ:Env):∀(l:List AV) {u:List Value},gvs l=some u→aH ρ l=u
 |[],_,h=>by simp only[gvs,Option.some.injEq] at h;rw[aH,h]
 |v::l,u,h=>by
  simp only[gvs] at h;split at h
  ·rename_i v' hv;simp only[Option.map_eq_some_iff] at h;obtain⟨l',h1,rfl⟩:=h;rw[aH,agF ρ v hv,J6 ρ l h1]
  ·cases h
end
def Mh (P:Program){α:Type}:Sem α→Option α
 | .pure a=>some a
 | .program k=>Mh P (k P)
 | .mark _ k=>Mh P k
 |_=>none
theorem Dn {P:Program}{α:Type}:∀(s:Sem α) {a:α},Mh P s=some a→∀w,s.run P w= .ok a w
 | .pure _,_,h,w=>by simp only[Mh,Option.some.injEq] at h;rw[Sem.run,h]
 | .program k,_,h,w=>by simp only[Mh] at h;rw[Sem.run];exact Dn (k P) h w
 | .mark _ k,_,h,w=>by simp only[Mh] at h;rw[Sem.run];exact Dn k h w
 | .load ..,_,h,_ | .store ..,_,h,_ | .new ..,_,h,_ | .shape ..,_,h,_ | .freeze ..,_,h,_ | .frozen ..,_,h,_ | .getObj ..,_,h,_ | .setObj ..,_,h,_ | .choose ..,_,h,_ | .sys ..,_,h,_ | .halt _,_,h,_=>by simp[Mh] at h
def dZ (i:Nat)(t:TT):AV:=t.get i
def uL (ρ:Env):AV→Deferred
 | .ptr b _=>{ target:=.collected (ρ.blk b),args:=#[]}
 | .fn f l c=>{ target:=.fn f (aH ρ c).toArray,args:=(aH ρ l).toArray}
 |_=>{ target:=.nil,args:=#[]}
def BL (ρ:Env):AV→List Deferred
 | .uK l=>l.map (uL ρ)
 |_=>[]
structure aS (ρ:Env)(n N:Nat)(t:TT)(a:Act):Prop where
 size:a.tmps.size=N
 get:∀i,a.tmps.getD i undef=cv ρ (dZ i t)
 ok:∀i,(dZ i t).ok n
 defers:a.defers=BL ρ (dZ N t)
def dY (d:Option Nat)(v:AV)(t:TT):TT:=match d with|some i=>TT.put 20 t i v|none=>t
def mJ (N:Nat):Option Nat→Bool|some i=>Nat.blt i N && Nat.blt i 1048575|none=>true
theorem l9 {i:Nat}(h:i < 1048575)(t:TT)(v:AV)(j:Nat):dZ j (TT.put 20 t i v)=if i=j then v else dZ j t:=
 TT.iB 20 t i v j zy
theorem aS.put {ρ:Env}{n N:Nat}{t:TT}{a:Act}(h:aS ρ n N t a){d:Option Nat}{v:AV}(hd:mJ N d=true)(hv:v.ok n):aS ρ n N (dY d v t) (a.put d (cv ρ v)):=by
 cases d with
 |none=>exact h
 |some i=>
  have hd':i < N∧i < 1048575:=by simpa [mJ,Nat.blt_eq] using hd
  obtain⟨hi,hi'⟩:=hd';have e:=l9 hi' t v;refine⟨by simp[Act.put,h.size],fun j=>?_,fun j=>?_,?_⟩
  ·show (a.tmps.setIfInBounds i (cv ρ v)).getD j undef=cv ρ (dZ j (TT.put 20 t i v));rw[e];by_cases hij:i=j
   ·subst hij;rw[zW rfl];simp[Array.getD,h.size,hi]
   ·rw[za hij,← h.get j];simp only[Array.getD_eq_getD_getElem?];rw[yU hij]
  ·show (dZ j (TT.put 20 t i v)).ok n;rw[e];split
   ·exact hv
   ·exact h.ok j
  ·show a.defers=BL ρ (dZ N (TT.put 20 t i v));rw[e,za zy];exact h.defers
theorem Oa {n:Nat}{ρ ρ':Env}(he:Ext n ρ ρ'){v:AV}(hv:v.ok n):uL ρ' v=uL ρ v:=by
 cases v<;>simp only[uL]
 ·rw[he.blk _ hv]
 ·rw[cz he _ hv.1,cz he _ hv.2]
theorem Ik {n:Nat}{ρ ρ':Env}(he:Ext n ρ ρ'){v:AV}(hv:v.ok n):BL ρ' v=BL ρ v:=by
 cases v<;>simp only[BL];exact yt fun x hx=>Oa he ((bQ n _).1 hv x hx)
theorem aS.mono {ρ ρ':Env}{n m N:Nat}{t:TT}{a:Act}(h:aS ρ n N t a)(he:Ext n ρ ρ')(hn:n≤m):aS ρ' m N t a:=
 ⟨h.size,fun i=>by rw[h.get i,iV he _ (h.ok i)],fun i=>AV.ok.mono hn _ (h.ok i),by rw[h.defers,Ik he (h.ok N)]⟩
def ev (t:TT):Operand→AV
 | .tmp i=>dZ i t
 | .const v=>avD v
 | .global g=>.jK g 0
 | .func f=>.fn (.func f) [] []
theorem aS.eval {ρ:Env}{n N:Nat}{t:TT}{a:Act}(h:aS ρ n N t a):∀x,a.eval x=cv ρ (ev t x)
 | .tmp i=>h.get i
 | .const v=>(aaW ρ v).symm
 | .global _g=>rfl
 | .func _f=>rfl
theorem aS.fQ {ρ:Env}{n N:Nat}{t:TT}{a:Act}(h:aS ρ n N t a):∀x,(ev t x).ok n
 | .tmp i=>h.ok i
 | .const v=>abt n v
 | .global _=>trivial
 | .func _=>⟨trivial,trivial⟩
def gev (t:TT)(x:Operand):Value:=match gv (ev t x) with|some v=>v|none=>undef
def amB:Op→Bool | .select .. =>true|_=>false
def EL (P:Program)(t:TT)(o:Oper):Option AV:=
 if amB o.op then none else
 if o.op.operands.toList.all (fun x=>(gv (ev t x)).isSome) then
  match Mh P (execOp (gev t) o) with
  |some (.value v)=>some (avD v)
  |_=>none
 else none
theorem AQ {P:Program}{t:TT}{o:Oper}{v:AV}(h:EL P t o=some v){ρ:Env}{n N:Nat}{a:Act}(ht:aS ρ n N t a)(w:World):
 (execOp a.eval o).run P w= .ok (.value (cv ρ v)) w∧v.ok n:=by
 unfold EL at h;split at h
 ·cases h
 rename_i hs;split at h
 ·rename_i hg
  have hc:execOp a.eval o=execOp (gev t) o:=by
   refine execOp_congr o (fun cs b e=>hs (by rw[e];rfl)) fun x hx=>?_
   have hx':=zY.1 hg x (by simpa using hx)
   rw[ht.eval x];unfold gev
   cases hq:gv (ev t x) with
   |none=>rw[hq] at hx';cases hx'
   |some u=>exact agF ρ _ hq
  split at h
  ·rename_i u hr;obtain rfl:=zq h;rw[hc,Dn _ hr w,aaW];exact⟨rfl,abt n u⟩
  ·cases h
 ·cases h
theorem lG (ρ:Env)(l:List AV)(j:Nat):(aH ρ l)[j]? =(l[j]?).map (cv ρ):=by rw[bz,yh]
theorem oU {ρ:Env}{w:World}{b e:Nat}{vs:List AV}:∀{o:Option Nat},(aF.cells vs e o).rep ρ w b→∃cur:Array Value,w.heap[ρ.blk b]? =some (.cells cur e (0,0))∧∀(j:Nat) (v:AV),vs[j]? =some v→cur[j]? =some (cv ρ v)
 |none,h=>⟨_,h,fun j v hv=>by simp[lG,hv]⟩
 |some sz,⟨n,cur,h1,h2,h3,h4,h5,h6⟩=>⟨cur,h1,fun j v hv=>by
  have e1:(cur.toList.take (n * sz))[j]? =some (cv ρ v):=by rw[h6,lG,hv,yN]
  rw[yj] at e1;split at e1
  ·rw[← xZ];exact e1
  ·cases e1⟩
theorem sW {ρ:Env}{w:World}{b e:Nat}{vs:List AV}{o:Option Nat}(h:(aF.cells vs e o).rep ρ w b){j:Nat}{v:AV}(hv:vs[j]? =some v):w.cell? ⟨ρ.blk b,j,none⟩=some (cv ρ v):=by
 obtain⟨cur,h1,h2⟩:=oU h;have e1:=h2 j v hv;simp only[World.cell?,h1]
 simpa using e1
def uj (T:bH)(bl:List (Nat×aF))(e:Nat):AV→Option AV
 | .ptr b o=>match T.get e,au b bl with
   |some i,some (.cells vs _ _)=>if i.row then (if Nat.ble (o+i.size) vs.length then some (.agg ((vs.drop o).take i.size)) else none) else vs[o]?
   |_,_=>none
 |_=>none
theorem Cn {n:Nat}{l:List AV}(h:oks n l){j:Nat}{v:AV}(hv:l[j]? =some v):v.ok n:=(bQ n l).1 h v (zD hv)
theorem ku {n:Nat}{l:List AV}(h:oks n l)(k:Nat):oks n (l.drop k):=(bQ _ _).2 fun v hv=>(bQ n l).1 h v (List.mem_of_mem_drop hv)
theorem iP {n:Nat}{l:List AV}(h:oks n l)(k:Nat):oks n (l.take k):=(bQ _ _).2 fun v hv=>(bQ n l).1 h v (vO hv)
theorem bC {n:Nat}{l l':List AV}(h:oks n l)(h':oks n l'):oks n (l++l'):=(bQ _ _).2 fun v hv=>by
 rcases zA.1 hv with hv|hv
 ·exact (bQ n l).1 h v hv
 ·exact (bQ n l').1 h' v hv
theorem qC {P:Program}{T:bH}(hT:aZ P T){ρ:Env}{n:Nat}{bl:List (Nat×aF)}{w:World}{e:Nat}{x v:AV}(hr:∀b o,x= .ptr b o→∀k,au b bl=some k→k.ok n∧k.rep ρ w b)(h:uj T bl e x=some v):
 (Instr.loadAt e (cv ρ x)).run P w= .ok (cv ρ v) w∧v.ok n:=by
 unfold uj at h;split at h
 case h_2=>cases h
 case h_1 b o=>
 split at h
 case h_2=>cases h
 case h_1 i vs e' op hi hb=>
 obtain⟨ho,hrep⟩:=hr b o rfl _ hb;have hti:=hT e i hi;obtain⟨d,hu,hd,_⟩:=hti.under;rw[cv];split at h
 ·rename_i hrow;split at h
  ·rename_i hle;have auP:=zk hle;obtain rfl:=zq h;have hlen:((vs.drop o).take i.size).length=i.size:=by simp;omega
   refine⟨?_,iP (ku ho _) _⟩;have:=run_loadAt_mid (P:=P) w (ρ.blk b) o e (aH ρ ((vs.drop o).take i.size)) d (fun j u hu=>?_) hu (by rw[hd,hrow]) (by rw[hti.size,ay,hlen])
   ·rw[this,cv]
   ·rw[lG] at hu
    cases hq:((vs.drop o).take i.size)[j]? with
    |none=>rw[hq] at hu;cases hu
    |some v0=>
     rw[hq] at hu;obtain rfl:=zq hu;refine sW hrep (j:=o+j) ?_;rw[yj] at hq;split at hq
     ·rw[yg] at hq;exact hq
     ·cases hq
  ·cases h
 ·rename_i hrow;refine⟨?_,Cn ho h⟩;have hc:=sW hrep h
  have hagg:(isAgg e).run P w= .ok false w:=by
   have hd':d.isRow=false:=by rw[hd];simpa using hrow
   unfold isAgg;rw[Sem.run_bind,run_underlying hu w]
   cases d<;>simp_all [TypeDesc.isRow]
  simp[Instr.loadAt,Instr.sureAddr,loadVar,hagg,run_load,hc]
def SY (T:bH)(gl:List (Nat×List Value))(e:Nat):AV→Option AV
 | .jK g o=>match T.get e,au g gl with
   |some i,some l=>cond i.row none ((l[o]?).map gX)
   |_,_=>none
 |_=>none
def K9 (gl:List (Nat×List Value))(w:World):Prop:=∀g l,au g gl=some l→∀(j:Nat) (v:Value),l[j]? =some v→w.cell? ⟨g,j,none⟩=some v
theorem Aw {P:Program}{T:bH}(hT:aZ P T){ρ:Env}{n:Nat}{gl:List (Nat×List Value)}{w:World}{e:Nat}{x v:AV}(hg:K9 gl w)(h:SY T gl e x=some v):
 (Instr.loadAt e (cv ρ x)).run P w= .ok (cv ρ v) w∧v.ok n:=by
 unfold SY at h;split at h
 case h_2=>cases h
 case h_1 g o=>
 split at h
 case h_2=>cases h
 case h_1 i l hi hl=>
 cases hrow:i.row with
 |true=>rw[hrow] at h;cases h
 |false=>
 rw[hrow] at h;simp only[cond_false] at h;obtain⟨u,hu,rfl⟩:=zi.1 h;obtain⟨d,hud,hd,_⟩:=(hT e i hi).under;have hc:=hg g l hl o u hu;refine⟨?_,nQ n u⟩;rw[qH,cv]
 have hagg:(isAgg e).run P w= .ok false w:=by
  have hd':d.isRow=false:=by rw[hd];exact hrow
  unfold isAgg;rw[Sem.run_bind,run_underlying hud w]
  cases d<;>simp_all [TypeDesc.isRow]
 simp[Instr.loadAt,Instr.sureAddr,loadVar,hagg,run_load,hc]
theorem aJ.QC {w0:World}{ρ:Env}{W:AW}{w:World}(h:aJ w0 ρ W w):K9 W.gl w:=fun g l hg j v hv=>by
 have h0:=h.gl g l hg j v hv
 have hlt:g < w0.heap.size:=by
  rcases zP g w0.heap.size with h1|h1
  ·exact h1
  ·rw[World.cell?,xg h1] at h0;cases h0
 have e:=h.below.block g hlt;simp only[World.cell?,e] at h0 ⊢;exact h0
def o7:AV→Bool
 | .raw v=>v.oneCell'
 | .agg _=>false
 | .tuple _=>false
 | .uK _=>false
 |_=>true
theorem mE {v:AV}(h:o7 v=true)(ρ:Env):(cv ρ v).oneCell'=true:=by
 cases v<;>first|exact h|(simp[o7] at h;done)|(simp only[cv];rfl)
def dQ:AV→List AV
 | .agg l=>l
 |v=>[v]
theorem nM {v:AV}(h:(dQ v).all o7=true)(ρ:Env):(cv ρ v).cells.toList=aH ρ (dQ v):=by
 cases v with
 |agg l=>simp[dQ,cv,Value.cells]
 |raw u=>
  have hu:u.oneCell'=true:=by simpa [dQ,o7] using h
  have:u.cells=#[u]:=by cases u<;>first|rfl|(simp[Value.oneCell'] at hu;done)
  simp[dQ,cv,aH,this]
 |tuple l=>simp[dQ,o7] at h
 |uK l=>simp[dQ,o7] at h
 |_=>simp[dQ,cv,aH,Value.cells]
theorem Bb {v:AV}{n:Nat}(h:v.ok n):oks n (dQ v):=by
 cases v with
 |agg l=>exact h
 |_=>exact⟨h,trivial⟩
theorem QV {v:AV}(h:(dQ v).all o7=true)(ρ:Env):∀u∈aH ρ (dQ v),u.oneCell'=true:=fun u hu=>by
 rw[bz] at hu;obtain⟨x,hx,rfl⟩:=zX.1 hu;exact mE (zY.1 h x hx) ρ
def Ja (T:bH)(bl:List (Nat×aF))(e:Nat)(y:AV):AV→Option (Nat×aF)
 | .ptr b o=>match T.get e,au b bl with
   |some i,some (.cells vs e' op)=>
    let cs:=dQ y
    if cs.all o7 && Nat.beq cs.length i.size && Nat.ble (o+i.size) vs.length then some (b,.cells (vs.take o++cs++vs.drop (o+i.size)) e' op) else none
   |_,_=>none
 |_=>none
theorem Db {α:Type}(l cs:List α)(o m:Nat)(h:o+cs.length≤m)(hm:m≤l.length):(l.take o++cs++l.drop (o+cs.length)).take m=(l.take m).take o++cs++(l.take m).drop (o+cs.length):=by
 have h1:(l.take o).length=o:=by simp;omega
 have e1:(l.take o).take m=l.take o:=yn (by rw[h1];omega)
 have e2:cs.take (m - o)=cs:=yn zy;have e3:(l.take m).take o=l.take o:=by rw[List.take_take,wJ zy]
 rw[List.take_append,List.take_append,zL,h1,e1,e2,e3,List.drop_take]
theorem Ps {P:Program}{T:bH}(hT:aZ P T){w0:World}{ρ:Env}{W:AW}{w:World}(hW:aJ w0 ρ W w){e b:Nat}{x y:AV}{k:aF}(h:Ja T W.bl e y x=some (b,k))(hy:y.ok W.nx):
 ∃w',(Instr.storeAt e (cv ρ x) (cv ρ y)).run P w= .ok () w'∧Post w0 ρ W w ρ ⟨W.nx,ib b k W.bl,addN b W.az,W.gl⟩ w':=by
 unfold Ja at h;split at h
 case h_2=>cases h
 case h_1 b' o=>
 split at h
 case h_2=>cases h
 case h_1 i vs e' op hi hb=>
 simp only at h;split at h
 case isFalse=>cases h
 case isTrue hc=>
 simp only[Bool.and_eq_true] at hc;obtain⟨⟨hone,hlen⟩,hle⟩:=hc;have hlen:=(beq_iff _ _).1 hlen;have hle:=zk hle;obtain⟨rfl,rfl⟩:=zm (zq h);obtain⟨p1,p2,p3,p4⟩:=hW.ok _ _ hb;have hti:=hT e i hi;obtain⟨cur,ou,hcell⟩:=oU (hW.rep _ _ hb)
 have hvl:vs.length≤cur.size:=by
  rcases zP cur.size vs.length with hlt|hge
  ·have:=hcell cur.size _ (zg hlt);simp at this
  ·exact hge
 have hst:=run_storeCells_at P (ρ.blk b') o e' (aH ρ (dQ y)) 0 cur w ou (by rw[ay];omega) (QV hone ρ)
 have hcells:=nM hone ρ;obtain⟨row,hrow⟩:∃row,(cur.toList.take (o+0)++aH ρ (dQ y)++cur.toList.drop (o+0+(aH ρ (dQ y)).length)).toArray=row:=⟨_,rfl⟩;rw[hrow] at hst;have hh:=setRow_heap w (ρ.blk b') cur row e' (0,0) ou;refine⟨w.setRow (ρ.blk b') row,?_,hW.write hb ⟨rfl,rfl,rfl,zw,fun j _ hj=>?_⟩ (bC (bC (iP p2 _) (Bb hy)) (ku p2 _)) ?_⟩
 ·have hsz:(cv ρ y).cells.size=i.size:=by rw[← yZ,hcells,ay,hlen]
  simp[Instr.storeAt,cv,Instr.sureAddr,storeVar,hti.sizeOf,hsz,hcells,hst]
 ·simp only[World.setRow];rw[wQ,za hj]
 ·cases op with
  |none=>
   have hc:w.heap[ρ.blk b']? =some (.cells (aH ρ vs).toArray e' (0,0)):=hW.rep _ _ hb;rw[ou] at hc;have hcv:cur=(aH ρ vs).toArray:=by injection (zq hc)
   show _=_;rw[hh,← hrow];subst hcv;simp[bz,hlen,List.map_append,List.map_take,List.map_drop]
  |some sz=>
   obtain⟨n,cur',q1,q2,q3,q4,q5,q6⟩:=hW.rep _ _ hb;rw[ou] at q1;have hcc:cur=cur':=by injection (zq q1)
   subst hcc;refine⟨n,row,hh,q2,q3,?_,?_,?_⟩
   ·rw[← hrow];simp[ay];omega
   ·simp;omega
   ·have e1:=Db cur.toList (aH ρ (dQ y)) o (n * sz) (by rw[ay];omega) (by rw[yZ,q4];exact wM _ q2)
    rw[← hrow];simp only[Nat.add_zero];rw[e1,q6];simp[bz,hlen,List.map_append,List.map_take,List.map_drop]
def AW.push (W:AW)(k:aF):AW:=⟨W.nx+1,(W.nx,k)::W.bl,W.az,W.gl⟩
theorem kF (w:World)(o:Obj):Gr w (w.alloc o) (fun _=>False):=⟨rfl,rfl,rfl,zw,fun i hi _=>wT w o i hi⟩
theorem aJ.row {w0:World}{ρ:Env}{W:AW}{w:World}(h:aJ w0 ρ W w){vs:List AV}(ho:oks W.nx vs)(e:Nat):
 Post w0 ρ W w (ρ.up W.nx w.heap.size 0) (W.push (.cells vs e none)) (w.alloc (.cells (aH ρ vs).toArray e)):=by
 refine h.new (kF w _) (zn _) zw ho ?_;show _=_;rw[Env.aM,cz (Env.gu ρ W.nx w.heap.size 0) vs ho];exact yJ w _
def kK (place:Nat→Option (Nat×Nat))(cells:List AV):List (Nat×AV)→Option (List AV)
 |[]=>some cells
 |(i,v)::rest=>match place i with
  |none=>none
  |some (off,size)=>
   if (dQ v).all o7 && Nat.beq (dQ v).length size && Nat.ble (off+size) cells.length then kK place (cells.take off++dQ v++cells.drop (off+size)) rest else none
theorem foldl_set (vs:List Value):∀(off:Nat) (cells:Array Value),off+vs.length≤cells.size→
 (vs.zipIdx.foldl (fun cs (x:Value×Nat)=>cs.setIfInBounds (off+x.2) x.1) cells).toList=cells.toList.take off++vs++cells.toList.drop (off+vs.length):=by
 have key:∀(vs:List Value) (k off:Nat) (cells:Array Value),off+k+vs.length≤cells.size→
  ((vs.zipIdx k).foldl (fun cs (x:Value×Nat)=>cs.setIfInBounds (off+x.2) x.1) cells).toList=cells.toList.take (off+k)++vs++cells.toList.drop (off+k+vs.length):=by
  intro vs
  induction vs with
  |nil=>intro k off cells _;simp
  |cons v rest ih=>
   intro k off cells h;rw[List.zipIdx_cons,wu,ih (k+1) off _ (by simp at h ⊢;omega)]
   have h1:off+k < cells.toList.length:=by simp at h ⊢;omega
   simp only[Array.toList_setIfInBounds,List.length_cons];rw[show off+(k+1)=off+k+1 by omega,show off+k+1+rest.length=off+k+(rest.length+1) by omega]
   rw[List.drop_set,zW zy,List.take_set,List.take_succ_eq_append_getElem h1,vV _ _ zu];have:off+k - (cells.toList.take (off+k)).length=0:=by simp;omega
   rw[this];simp
 intro off cells h;have:=key vs 0 off cells zy
 simpa using this
theorem mQ {ρ:Env}{place:Nat→Option (Nat×Nat)}:∀(parts:List (Nat×AV)) (cells:List AV) {out:List AV},kK place cells parts=some out→
 Instr.fill place (aH ρ cells).toArray (parts.map fun x=>(x.1,cv ρ x.2))=some (aH ρ out).toArray
 |[],cells,out,h=>by
  simp only[kK,Option.some.injEq] at h;subst h;rfl
 |(i,v)::rest,cells,out,h=>by
  simp only[kK] at h;split at h
  ·cases h
  rename_i off size hp;split at h
  ·rename_i hc;simp only[Bool.and_eq_true] at hc;obtain⟨⟨hone,hlen⟩,hle⟩:=hc;have hlen:=(beq_iff _ _).1 hlen;have hle:=zk hle;have ih:=mQ (ρ:=ρ) rest _ h;have hcl:=nM hone ρ;have hsz:(cv ρ v).cells.size=size:=by rw[← yZ,hcl,ay,hlen]
   have hnot:¬(off+(cv ρ v).cells.size > (aH ρ cells).toArray.size):=by simp[hsz,ay];omega
   simp only[List.map_cons,Instr.fill,hp,hsz];rw[za (by simp[ay];omega)]
   rw[← ih]
   congr 1
   apply yE;have ZZ:=foldl_set (cv ρ v).cells.toList off (aH ρ cells).toArray (by simp[hsz,ay];omega)
   have e1:(Array.foldl (fun cs (x:Value×Nat)=>match x with|(c,j)=>cs.setIfInBounds (off+j) c) (aH ρ cells).toArray (cv ρ v).cells.zipIdx)=((cv ρ v).cells.toList.zipIdx.foldl (fun cs (x:Value×Nat)=>cs.setIfInBounds (off+x.2) x.1) (aH ρ cells).toArray):=by
    rw[← Array.foldl_toList,Array.toList_zipIdx]
   rw[e1,ZZ,hcl];simp[bz,hlen,List.map_append,List.map_take,List.map_drop]
  ·cases h
theorem mR {n:Nat}{place:Nat→Option (Nat×Nat)}:∀(parts:List (Nat×AV)) (cells:List AV) {out:List AV},kK place cells parts=some out→oks n cells→(∀x∈parts,x.2.ok n)→oks n out
 |[],cells,out,h,hc,_=>by
  simp only[kK,Option.some.injEq] at h;subst h;exact hc
 |(i,v)::rest,cells,out,h,hc,hp=>by
  simp only[kK] at h;split at h
  ·cases h
  split at h
  ·exact mR rest _ h (bC (bC (iP hc _) (Bb (hp _ zb))) (ku hc _)) fun x hx=>hp x (ze _ hx)
  ·cases h
theorem aK {a b:Nat}(h:Nat.blt a b=true):a < b:=by simpa [Nat.blt_eq] using h
abbrev aj:=Nat→List AV→AW→Option (AV×AW)
def GV (T:bH)(ty sz:Nat)(l:List AV)(off:Nat):Option AV:=
 match T.get ty with
 |some i=>if i.row then (if Nat.beq i.size sz && Nat.ble (off+sz) l.length then some (.agg ((l.drop off).take sz)) else none) else l[off]?
 |none=>none
def gK:AV→Option Nat
 | .int _ (.ofNat j)=>some j
 |_=>none
def qW (T:bH)(t:TT):Op→Option AV
 | .move x=>some (ev t x)
 | .assign x=>some (ev t x)
 | .pick c a b=>match ev t c with
   | .bool true=>some (ev t a)
   | .bool false=>some (ev t b)
   |_=>none
 | .fieldAddr s x f=>match T.get s,ev t x with
   |some i,.ptr b o=>match i.kd with
    | .struct fs=>(fs[f]?).map fun y=>.ptr b (o+y.1)
    |_=>none
   |some i,.jK b o=>match i.kd with
    | .struct fs=>(fs[f]?).map fun y=>.jK b (o+y.1)
    |_=>none
   |_,_=>none
 | .indexAddr s x ix=>match T.get s,ev t x,gK (ev t ix) with
   |some i,.slice b o _ n _,some j=>match i.kd with
    | .slice _ sz _=>if Nat.blt j n then some (.ptr b (o+j * sz)) else none
    |_=>none
   |some i,.ptr b o,some j=>match i.kd with
    | .array n _ sz=>if Nat.blt j n then some (.ptr b (o+j * sz)) else none
    |_=>none
   |some i,.jK b o,some j=>match i.kd with
    | .array n _ sz=>if Nat.blt j n then some (.jK b (o+j * sz)) else none
    |_=>none
   |_,_,_=>none
 | .extract x i=>match ev t x with
   | .tuple l=>l[i]?
   |_=>none
 | .field s x f=>match T.get s,ev t x with
   |some i,.agg l=>match i.kd with
    | .struct fs=>match fs[f]? with
      |some y=>GV T y.2.1 y.2.2 l y.1
      |none=>none
    |_=>none
   |_,_=>none
 | .makeFunc fn first cap=>some (.fn fn (first.toList.map (ev t)) (cap.toList.map (ev t)))
 | .nilCheck x=>match ev t x with
   | .ptr b o=>some (.ptr b o)
   | .jK b o=>some (.jK b o)
   |_=>none
 |_=>none
section
variable {P:Program} {T:bH}
theorem Mf (hT:aZ P T){ty sz:Nat}{l:List AV}{off:Nat}{v:AV}(h:GV T ty sz l off=some v)(ρ:Env)(w:World):(part ty (aH ρ l).toArray off).run P w= .ok (cv ρ v) w:=by
 unfold GV at h;split at h
 case h_2=>cases h
 case h_1 i hi=>
 have hti:=hT ty i hi;obtain⟨d,hu,hd,_⟩:=hti.under;split at h
 ·rename_i hrow;split at h
  ·rename_i hc;simp only[Bool.and_eq_true] at hc;have h1:=(beq_iff _ _).1 hc.1;have h2:=zk hc.2;obtain rfl:=zq h
   have hagg:(isAgg ty).run P w= .ok true w:=by
    unfold isAgg;rw[Sem.run_bind,run_underlying hu w]
    cases d<;>simp_all [TypeDesc.isRow]
   simp only[part,Sem.run_bind,hagg,Result.andThen_ok,if_true,hti.sizeOf,Sem.run_pure]
   congr 1
   rw[cv,h1]
   congr 1
   apply yE;simp[bz,List.map_take,List.map_drop,List.extract_eq_take_drop]
  ·cases h
 ·rename_i hrow
  have hagg:(isAgg ty).run P w= .ok false w:=by
   have hd':d.isRow=false:=by rw[hd];simpa using hrow
   unfold isAgg;rw[Sem.run_bind,run_underlying hu w]
   cases d<;>simp_all [TypeDesc.isRow]
  simp[part,hagg,lG,h]
theorem Mx {ty sz:Nat}{l:List AV}{off n:Nat}{v:AV}(h:GV T ty sz l off=some v)(hl:oks n l):v.ok n:=by
 unfold GV at h;split at h
 case h_2=>cases h
 case h_1 i hi=>
 split at h
 ·split at h
  ·obtain rfl:=zq h;exact iP (ku hl _) _
  ·cases h
 ·exact Cn hl h
theorem bV {v:AV}{j:Nat}(h:gK v=some j):∃k,v= .int k (j:Int):=by
 unfold gK at h;split at h
 ·obtain rfl:=zq h;exact⟨_,rfl⟩
 ·cases h
theorem mh (hT:aZ P T){ρ:Env}{n N:Nat}{t:TT}{a:Act}(ht:aS ρ n N t a){o:Oper}{v:AV}(h:qW T t o.op=some v)(w:World):
 (execOp a.eval o).run P w= .ok (.value (cv ρ v)) w∧v.ok n:=by
 obtain⟨dst,op,type,pos,after,guard⟩:=o;dsimp only at h;unfold qW at h;split at h
 ·rename_i x;obtain rfl:=zq h;simp only[execOp,Sem.run_pure,ht.eval];exact⟨trivial,ht.fQ x⟩
 ·rename_i x;obtain rfl:=zq h;simp only[execOp,Sem.run_pure,ht.eval];exact⟨trivial,ht.fQ x⟩
 ·rename_i c x y;split at h
  ·rename_i hc;obtain rfl:=zq h;simp only[execOp,ht.eval,hc];exact⟨by simp[cv,asBool],ht.fQ x⟩
  ·rename_i hc;obtain rfl:=zq h;simp only[execOp,ht.eval,hc];exact⟨by simp[cv,asBool],ht.fQ y⟩
  ·cases h
 ·rename_i s x f;split at h
  ·rename_i i b o hi hx;split at h
   ·rename_i fs hk;obtain⟨y,hy,rfl⟩:=zi.1 h;have hx':=ht.fQ x;rw[hx] at hx';simp only[execOp,ht.eval,hx];have:=oQ (hT s i hi) hk hy (ρ.blk b) o w;rw[cv];simp only[Sem.run_bind,this,Result.andThen_ok,Sem.run_pure,cv];exact⟨trivial,hx'⟩
   ·cases h
  ·rename_i i b o hi hx;split at h
   ·rename_i fs hk;obtain⟨y,hy,rfl⟩:=zi.1 h;simp only[execOp,ht.eval,hx];have:=oQ (hT s i hi) hk hy b o w;rw[cv];simp only[Sem.run_bind,this,Result.andThen_ok,Sem.run_pure,cv];exact⟨trivial,trivial⟩
   ·cases h
  ·cases h
 ·rename_i s x ix;split at h
  ·rename_i i b o k m c j hi hx hj;obtain⟨kk,hj'⟩:=bV hj;split at h
   ·rename_i e sz uZ hk;split at h
    ·rename_i hlt;obtain rfl:=zq h;have hx':=ht.fQ x;rw[hx] at hx';have key:=fun cc=>Dm (hT s i hi) hk (c:=cc) (aK hlt) kk (ρ.blk b) o w
     refine⟨?_,hx'⟩
     cases c<;>simp only[execOp,ht.eval,hx,hj',cv,Sem.run_bind,key,Result.andThen_ok,Sem.run_pure]
    ·cases h
   ·cases h
  ·rename_i i b o j hi hx hj;obtain⟨kk,hj'⟩:=bV hj;split at h
   ·rename_i m e sz hk;split at h
    ·rename_i hlt;obtain rfl:=zq h;have hx':=ht.fQ x;rw[hx] at hx';simp only[execOp,ht.eval,hx,hj',cv];have:=qU (hT s i hi) hk (aK hlt) kk (ρ.blk b) o w;simp only[Sem.run_bind,this,Result.andThen_ok,Sem.run_pure];exact⟨trivial,hx'⟩
    ·cases h
   ·cases h
  ·rename_i i b o j hi hx hj;obtain⟨kk,hj'⟩:=bV hj;split at h
   ·rename_i m e sz hk;split at h
    ·rename_i hlt;obtain rfl:=zq h;simp only[execOp,ht.eval,hx,hj',cv];have:=qU (hT s i hi) hk (aK hlt) kk b o w;simp only[Sem.run_bind,this,Result.andThen_ok,Sem.run_pure];exact⟨trivial,trivial⟩
    ·cases h
   ·cases h
  ·cases h
 ·rename_i x i;split at h
  ·rename_i l hx;have hx':=ht.fQ x;rw[hx] at hx';simp only[execOp,ht.eval,hx,cv];refine⟨?_,Cn hx' h⟩;simp[Instr.extract,lG,h]
  ·cases h
 ·rename_i s x f;split at h
  ·rename_i i l hi hx;have hx':=ht.fQ x;rw[hx] at hx';split at h
   ·rename_i fs hk;split at h
    ·rename_i y hy;obtain⟨fields,h1,h2,h3⟩:=(hT s i hi).struct hk;have e2:(fields.toList.map (fun f=>(f.offset,f.type)))[f]? =(fs.map (fun x=>(x.1,x.2.1)))[f]?:=by rw[h2]
     rw[yh,yh,hy,yN] at e2
     cases hq:fields.toList[f]? with
     |none=>rw[hq] at e2;cases e2
     |some fd=>
      rw[hq] at e2;have e3:fields[f]? =some fd:=by rw[← xZ];exact hq
      simp only[Option.map_some,Option.some.injEq,Prod.mk.injEq] at e2;have hp:=Mf hT h ρ w;rw[← e2.1,← e2.2] at hp;simp only[execOp,ht.eval,hx,cv];refine⟨?_,Mx h hx'⟩;simp[Instr.field,run_underlying h1,e3,asAgg,hp]
    ·cases h
   ·cases h
  ·cases h
 ·rename_i fn first cap
  obtain rfl:=zq h;simp only[execOp,Instr.makeFunc,Sem.run_bind,Sem.run_pure,Result.andThen_ok,cv];refine⟨?_,(bQ _ _).2 fun v hv=>?_,(bQ _ _).2 fun v hv=>?_⟩
  ·congr 3
   ·apply yE;simp[bz,ht.eval]
   ·apply yE;simp[bz,ht.eval]
  ·obtain⟨x,_,rfl⟩:=zX.1 hv;exact ht.fQ x
  ·obtain⟨x,_,rfl⟩:=zX.1 hv;exact ht.fQ x
 ·rename_i x;split at h
  ·rename_i b o hx;obtain rfl:=zq h;have hx':=ht.fQ x;rw[hx] at hx';simp only[execOp,ht.eval,hx,cv];exact⟨rfl,hx'⟩
  ·rename_i b o hx;obtain rfl:=zq h;simp only[execOp,ht.eval,hx,cv];exact⟨rfl,trivial⟩
  ·cases h
 ·cases h
end
def Env.ues (ρ:Env)(n g:Nat)(x:Addr×Nat):Env:={ blk:=fun b=>if b=n then g else ρ.blk b,cap:=ρ.cap,es:=fun b=>if b=n then x else ρ.es b}
theorem Env.acT (ρ:Env)(n g:Nat)(x:Addr×Nat):Ext n ρ (ρ.ues n g x):=⟨fun b hb=>by simp[Env.ues,Nat.ne_of_lt hb],fun _ _=>rfl,fun b hb=>by simp[Env.ues,Nat.ne_of_lt hb]⟩
theorem aJ.FI {w0:World}{ρ:Env}{W:AW}{w:World}(h:aJ w0 ρ W w)(x:Addr×Nat):Post w0 ρ W w (ρ.ues W.nx w.heap.size x) ⟨W.nx+1,W.bl,W.az,W.gl⟩ w:=by
 have he:=Env.acT ρ W.nx w.heap.size x;refine⟨he,yY _,fun _ h=>h,Gr.refl _ _,fun b q1 q2 q3=>?_,⟨h.below,fun b k hb=>?_,fun b b' k k' h1 h2 e=>?_,fun b k hb=>?_,h.ng,h.gl⟩,fun _ _ h=>h,fun _ _ h=>.inl h,rfl⟩
 ·have:b=W.nx:=by have:b < W.nx+1:=q2;omega
  subst this;simp[Env.ues] at q3
 ·obtain⟨q1,q2,q3,q4⟩:=h.ok b k hb;rw[he.blk b q1];exact⟨xB q1,aF.ok.mono (yY _) q2,q3,q4⟩
 ·rw[he.blk b (h.ok b k h1).1,he.blk b' (h.ok b' k' h2).1] at e;exact h.inj b b' k k' h1 h2 e
 ·obtain⟨q1,q2,_⟩:=h.ok b k hb;exact (h.rep b k hb).ext he q1 q2
def rF (T:bH)(W:AW)(s:Nat)(x:AV)(lo hi:Option AV):Option (AV×AW):=
 match T.get s,x with
 |some i,.slice b o k n c=>match i.kd,au b W.bl with
  | .slice _ sz _,some (.cells vs _ op)=>
    match (match lo with|none=>some 0|some v=>gK v),(match hi with|none=>some n|some v=>gK v) with
    |some l,some h=>
     if Nat.ble l h then
      match c,op with
      |some c,_=>if Nat.ble h c then (if Nat.beq c l then some (.slice b o k (h - l) (some (c - l)),W) else some (.slice b (o+l * sz) (k+l) (h - l) (some (c - l)),W)) else none
      |none,some RJ=>if Nat.beq sz RJ && Nat.ble ((k+h) * sz) vs.length then
        (if Nat.blt l h || Nat.beq l 0 then some (.slice b (o+l * sz) (k+l) (h - l) none,W) else some (.FI W.nx,⟨W.nx+1,W.bl,W.az,W.gl⟩)) else none
      |none,none=>none
     else none
    |_,_=>none
  |_,_=>none
 |some i,.ptr b o=>match i.kd with
  | .array n _ sz=>match (match lo with|none=>some 0|some v=>gK v),(match hi with|none=>some n|some v=>gK v) with
    |some l,some h=>if Nat.ble l h && Nat.ble h n && Nat.blt l n then some (.slice b (o+l * sz) 0 (h - l) (some (n - l)),W) else none
    |_,_=>none
  |_=>none
 |_,_=>none
theorem dX {P:Program}{w:World}{k:IntKind}{j y:Nat}{code:BoundsCode}(h:j≤y):(Instr.sliceBound (.int k (j:Int)) y code).run P w= .ok j w:=by
 have c1:(0:Int)≤(j:Int)∧(j:Int)≤(y:Int):=⟨zy,zy⟩;simp only[Instr.sliceBound,asIntOf,Sem.run_bind,Sem.run_pure,Result.andThen_ok,if_pos c1,Int.toNat_natCast]
theorem Gy {P:Program}{w:World}{s e sz n cap l h:Nat}{A:Option Addr}{lo hi:Option Value}(hu:P.underlying s=some (.slice e))(hs:kZ P e sz=true)
 (hlo:(lo=none∧l=0)∨∃k,lo=some (.int k (l:Int))) (hhi:(hi=none∧h=n)∨∃k,hi=some (.int k (h:Int))) (h1:l≤h) (h2:h≤cap):
 (Instr.sliceAt s (.slice A n cap) lo hi none).run P w= .ok (.slice (if cap=l then A else A.map (·.add (l * sz))) (h - l) (cap - l)) w:=by
 have hs':=gp hs w;rcases hlo with⟨rfl,rfl⟩|⟨k,rfl⟩<;>rcases hhi with⟨rfl,rfl⟩|⟨k',rfl⟩
 ·simp[Instr.sliceAt,Instr.slice,Instr.sliceBounds,run_underlying hu,hs']
 ·simp[Instr.sliceAt,Instr.slice,Instr.sliceBounds,run_underlying hu,hs',dX h2]
 ·simp[Instr.sliceAt,Instr.slice,Instr.sliceBounds,run_underlying hu,hs',dX h1]
 ·simp[Instr.sliceAt,Instr.slice,Instr.sliceBounds,run_underlying hu,hs',dX h1,dX h2]
theorem FN {P:Program}{w:World}{s e sz n l h g o:Nat}{lo hi:Option Value}(hu:P.underlying s=some (.array n e))(hs:kZ P e sz=true)
 (hlo:(lo=none∧l=0)∨∃k,lo=some (.int k (l:Int))) (hhi:(hi=none∧h=n)∨∃k,hi=some (.int k (h:Int))) (h1:l≤h) (h2:h≤n) (h3:l < n):
 (Instr.sliceAt s (.pointer (some ⟨g,o,none⟩)) lo hi none).run P w= .ok (.slice (some ⟨g,o+l * sz,none⟩) (h - l) (n - l)) w:=by
 have hs':=gp hs w;have hne:¬n=l:=zy;have hadd:(⟨g,o,none⟩:Addr).add (l * sz)=⟨g,o+l * sz,none⟩:=addr_add _ _ _
 have hb:(Instr.sliceBounds false n n lo hi none).run P w= .ok (l,h,n) w:=by
  rcases hlo with⟨rfl,rfl⟩|⟨k,rfl⟩<;>rcases hhi with⟨rfl,rfl⟩|⟨k',rfl⟩
  ·simp[Instr.sliceBounds]
  ·simp[Instr.sliceBounds,dX h2]
  ·simp[Instr.sliceBounds,dX h1]
  ·simp[Instr.sliceBounds,dX h1,dX h2]
 simp only[Instr.sliceAt,run_underlying hu,Sem.run_bind,Result.andThen_ok,Instr.sureAddr,Sem.run_pure,hb,hs',hadd,if_neg hne]
theorem tO {_t:TT}{ρ:Env}{n:Nat}{lo:Option AV}{l:Nat}(h:(match lo with|none=>some n|some v=>gK v)=some l):
 (lo.map (cv ρ)=none∧l=n)∨∃k,lo.map (cv ρ)=some (.int k (l:Int)):=by
 cases lo with
 |none=>exact .inl ⟨rfl,(zq h).symm⟩
 |some v=>
  obtain⟨k,rfl⟩:=bV h;exact .inr ⟨k,rfl⟩
theorem Pt {P:Program}{T:bH}(hT:aZ P T){w0:World}{ρ:Env}{W W':AW}{w:World}(hW:aJ w0 ρ W w){s:Nat}{x v:AV}{lo hi:Option AV}(h:rF T W s x lo hi=some (v,W'))(hx:x.ok W.nx):
 ∃ρ',(∀w2,(Instr.sliceAt s (cv ρ x) (lo.map (cv ρ)) (hi.map (cv ρ)) none).run P w2= .ok (cv ρ' v) w2)∧Post w0 ρ W w ρ' W' w∧v.ok W'.nx:=by
 unfold rF at h;split at h
 case h_3=>cases h
 case h_2 i b o hi'=>
  split at h
  case h_2=>cases h
  case h_1 n e sz hk=>
  obtain⟨hu,hs⟩:=(hT s i hi').array hk;split at h
  case h_2=>cases h
  case h_1 l hh hl0 hh0=>
  have L:=tO (_t:=.nil) (ρ:=ρ) hl0;have H:=tO (_t:=.nil) (ρ:=ρ) hh0;split at h
  case isFalse=>cases h
  case isTrue hc=>
  simp only[Bool.and_eq_true] at hc;obtain⟨rfl,rfl⟩:=zm (zq h);refine⟨ρ,fun w2=>?_,Post.refl hW,hx⟩
  simp only[cv];exact FN hu hs L H (zk hc.1.1) (zk hc.1.2) (aK hc.2)
 case h_1 i b o k n c hi'=>
 split at h
 case h_2=>cases h
 case h_1 e sz uZ vs e' op hk hb=>
 obtain⟨hu,hs,_,hpos⟩:=(hT s i hi').slice hk;split at h
 case h_2=>cases h
 case h_1 l hh hl0 hh0=>
 have L:=tO (_t:=.nil) (ρ:=ρ) hl0;have H:=tO (_t:=.nil) (ρ:=ρ) hh0;split at h
 case isFalse=>cases h
 case isTrue hle=>
 have hle:=zk hle;split at h
 ·rename_i c;split at h
  case isFalse=>cases h
  case isTrue hc=>
  have hc:=zk hc;have hrun:=fun w2=>Gy (P:=P) (w:=w2) (n:=n) (A:=some ⟨ρ.blk b,o,none⟩) hu hs L H hle hc
  split at h
  ·rename_i hcl;have hcl:=(beq_iff _ _).1 hcl;obtain⟨rfl,rfl⟩:=zm (zq h);refine⟨ρ,fun w2=>?_,Post.refl hW,hx⟩
   simp only[cv];rw[hrun,zW hcl]
  ·rename_i hcl;have hcl:¬c=l:=fun e=>hcl ((beq_iff _ _).2 e)
   obtain⟨rfl,rfl⟩:=zm (zq h);refine⟨ρ,fun w2=>?_,Post.refl hW,hx⟩
   simp only[cv];rw[hrun,za hcl,yN,addr_add]
 ·rename_i RJ;split at h
  case isFalse=>cases h
  case isTrue hc=>
  simp only[Bool.and_eq_true] at hc;have e1:=(beq_iff _ _).1 hc.1;have e2:=zk hc.2;subst e1;obtain⟨m,cur,q1,q2,q3,q4,q5,q6⟩:=hW.rep b _ hb
  have hm:k+hh≤m:=by
   rw[q5] at e2;exact Nat.le_of_mul_le_mul_right e2 hpos
  have hrun:=fun w2=>Gy (P:=P) (w:=w2) (n:=n) (cap:=ρ.cap b - k) (A:=some ⟨ρ.blk b,o,none⟩) hu hs L H hle zy
  split at h
  ·rename_i hlt;simp only[Bool.or_eq_true] at hlt;obtain⟨rfl,rfl⟩:=zm (zq h);refine⟨ρ,fun w2=>?_,Post.refl hW,hx⟩
   simp only[cv];rw[hrun,Nat.sub_sub];rcases hlt with hlt|hlt
   ·have hlt:=aK hlt;rw[za zy,yN,addr_add]
   ·obtain rfl:=(beq_iff _ _).1 hlt;split
    ·simp
    ·rw[yN,addr_add]
  ·rename_i hlt
   have hlt:hh=l:=by
    rcases zP l hh with h1|h1
    ·have h2:Nat.blt l hh=true:=by simpa [Nat.blt_eq] using h1
     rw[h2] at hlt;exact absurd rfl hlt
    ·omega
   obtain⟨rfl,rfl⟩:=zm (zq h);refine⟨_,fun w2=>?_,hW.FI (if ρ.cap b - k=l then ⟨ρ.blk b,o,none⟩ else ⟨ρ.blk b,o+l * sz,none⟩,ρ.cap b - k - l),zS _⟩
   simp only[cv];rw[hrun,hlt,Nat.sub_self];simp only[Env.ues,if_true];split
   ·rfl
   ·rw[yN,addr_add]
 ·cases h
def BV (T:bH)(s:Nat):Option Kd:=(T.get s).map (·.kd)
theorem fA {T:bH}{s:Nat}{k:Kd}(h:BV T s=some k):∃i,T.get s=some i∧i.kd=k:=by
 obtain⟨i,h1,h2⟩:=zi.1 h;exact⟨i,h1,h2⟩
def Vb (T:bH)(s:Nat):AV→AV→Option Bool
 | .ptr _ _,.bU=>match BV T s with|some (.ptr _)=>some false|_=>none
 | .bU,.ptr _ _=>match BV T s with|some (.ptr _)=>some false|_=>none
 | .slice _ _ _ _ _,.bT=>match BV T s with|some (.slice _ _ _)=>some false|_=>none
 | .FI _,.bT=>match BV T s with|some (.slice _ _ _)=>some false|_=>none
 |_,_=>none
section
variable {P:Program} {w:World} {s e:Nat}
theorem aax (d:Nat)(hu:P.underlying s=some (.pointer e))(a:Addr):(Op.equalIn (d+1) s (.pointer (some a)) (.pointer none)).run P w= .ok false w:=by simp[Op.equalIn,run_underlying hu]
theorem VZ (d:Nat)(hu:P.underlying s=some (.pointer e))(a:Addr):(Op.equalIn (d+1) s (.pointer none) (.pointer (some a))).run P w= .ok false w:=by simp[Op.equalIn,run_underlying hu]
theorem Tf (d:Nat)(hu:P.underlying s=some (.slice e))(a:Addr)(n c:Nat):(Op.equalIn (d+1) s (.slice (some a) n c) (.slice none 0 0)).run P w= .ok false w:=by simp[Op.equalIn,run_underlying hu]
end
theorem YQ {P:Program}{T:bH}(hT:aZ P T){ρ:Env}{w:World}{s:Nat}{x y:AV}{r:Bool}(h:Vb T s x y=some r):(Op.equal s (cv ρ x) (cv ρ y)).run P w= .ok r w:=by
 unfold Vb at h;split at h
 ·split at h
  ·rename_i hk;obtain⟨i,hi,hk⟩:=fA hk;have hu:=(hT s i hi).ptr hk;obtain rfl:=zq h;exact aax 9999 hu _
  ·cases h
 ·split at h
  ·rename_i hk;obtain⟨i,hi,hk⟩:=fA hk;have hu:=(hT s i hi).ptr hk;obtain rfl:=zq h;exact VZ 9999 hu _
  ·cases h
 ·split at h
  ·rename_i hk;obtain⟨i,hi,hk⟩:=fA hk;obtain⟨hu,_⟩:=(hT s i hi).slice hk;obtain rfl:=zq h;exact Tf 9999 hu _ _ _
  ·cases h
 ·split at h
  ·rename_i hk;obtain⟨i,hi,hk⟩:=fA hk;obtain⟨hu,_⟩:=(hT s i hi).slice hk;obtain rfl:=zq h;exact Tf 9999 hu _ _ _
  ·cases h
 ·cases h
def nk (T:bH)(W:AW)(s:Nat)(x:AV)(lo:Option AV)(hi mx:AV):Option (AV×AW):=
 match T.get s,x with
 |some i,.slice b o k _n c=>match i.kd with
  | .slice _ sz _=>match (match lo with|none=>some 0|some v=>gK v),gK hi,gK mx with
    |some l,some h,some m=>
     if Nat.ble l h && Nat.ble h m && Nat.blt l m then
      match c with
      |some c=>if Nat.ble m c then some (.slice b (o+l * sz) (k+l) (h - l) (some (m - l)),W) else none
      |none=>match au b W.bl with
       |some (.cells vs _ (some RJ))=>if Nat.beq sz RJ && Nat.ble ((k+m) * sz) vs.length then some (.slice b (o+l * sz) (k+l) (h - l) (some (m - l)),W) else none
       |_=>none
     else none
    |_,_,_=>none
  |_=>none
 |_,_=>none
theorem Dj {P:Program}{w:World}{s e sz n cap l h m:Nat}{kh km:IntKind}{A:Option Addr}{lo:Option Value}(hu:P.underlying s=some (.slice e))(hs:kZ P e sz=true)
 (hlo:(lo=none∧l=0)∨∃k,lo=some (.int k (l:Int))) (h1:l≤h) (h2:h≤m) (h3:m≤cap):
 (Instr.sliceAt s (.slice A n cap) lo (some (.int kh (h:Int))) (some (.int km (m:Int)))).run P w= .ok (.slice (if m=l then A else A.map (·.add (l * sz))) (h - l) (m - l)) w:=by
 have hs':=gp hs w;rcases hlo with⟨rfl,rfl⟩|⟨k,rfl⟩
 ·simp[Instr.sliceAt,Instr.slice,Instr.sliceBounds,run_underlying hu,hs',dX h2,dX h3]
 ·simp[Instr.sliceAt,Instr.slice,Instr.sliceBounds,run_underlying hu,hs',dX h1,dX h2,dX h3]
theorem L8 {P:Program}{T:bH}(hT:aZ P T){w0:World}{ρ:Env}{W W':AW}{w:World}(hW:aJ w0 ρ W w){s:Nat}{x hi mx v:AV}{lo:Option AV}(h:nk T W s x lo hi mx=some (v,W'))(hx:x.ok W.nx):
 W'=W∧(∀w2,(Instr.sliceAt s (cv ρ x) (lo.map (cv ρ)) (some (cv ρ hi)) (some (cv ρ mx))).run P w2= .ok (cv ρ v) w2)∧v.ok W.nx:=by
 unfold nk at h;split at h
 case h_2=>cases h
 case h_1 i b o k n c hi'=>
 split at h
 case h_2=>cases h
 case h_1 e sz uZ hk=>
 obtain⟨hu,hs,_,hpos⟩:=(hT s i hi').slice hk;split at h
 case h_2=>cases h
 case h_1 l hh m hl0 hh0 hm0=>
 have L:=tO (_t:=.nil) (ρ:=ρ) hl0;obtain⟨kh,rfl⟩:=bV hh0;obtain⟨km,rfl⟩:=bV hm0;split at h
 case isFalse=>cases h
 case isTrue hc=>
 simp only[Bool.and_eq_true] at hc;have h1:=zk hc.1.1;have h2:=zk hc.1.2;have h3:=aK hc.2;split at h
 ·rename_i c;split at h
  case isFalse=>cases h
  case isTrue hcc=>
  have hcc:=zk hcc;obtain⟨rfl,rfl⟩:=zm (zq h);refine⟨rfl,fun w2=>?_,hx⟩
  have hrun:=Dj (P:=P) (w:=w2) (n:=n) (kh:=kh) (km:=km) (A:=some ⟨ρ.blk b,o,none⟩) hu hs L h1 h2 hcc;simp only[cv];refine Eq.trans hrun ?_;rw[za zy,yN,addr_add]
 ·split at h
  ·rename_i vs e' RJ hb;split at h
   case isFalse=>cases h
   case isTrue hcc=>
   simp only[Bool.and_eq_true] at hcc;have e1:=(beq_iff _ _).1 hcc.1;have e2:=zk hcc.2;subst e1;obtain⟨m',cur,q1,q2,q3,q4,q5,q6⟩:=hW.rep b _ hb
   have hm:k+m≤m':=by
    rw[q5] at e2;exact Nat.le_of_mul_le_mul_right e2 hpos
   obtain⟨rfl,rfl⟩:=zm (zq h);refine⟨rfl,fun w2=>?_,hx⟩
   have hrun:=Dj (P:=P) (w:=w2) (n:=n) (cap:=ρ.cap b - k) (kh:=kh) (km:=km) (A:=some ⟨ρ.blk b,o,none⟩) hu hs L h1 h2 zy;simp only[cv];refine Eq.trans hrun ?_;rw[za zy,yN,addr_add]
  ·cases h
def jP (im:List (Nat×Nat)):Nat→Nat→List AV
 |_,0=>[]
 |a,m+1=>.int .u8 (.ofNat (bO ((au a im).getD 0)))::jP im (a+1) m
def lg (bl:List (Nat×aF))(sz:Nat):AV→Option (Nat×List AV)
 | .bT=>some (0,[])
 | .FI _=>some (0,[])
 | .slice b o _ m _=>match au b bl with
   |some (.cells vs _ _)=>if Nat.ble (o+m * sz) vs.length then some (m,(vs.drop o).take (m * sz)) else none
   |some (.img _ im)=>if Nat.beq sz 1 && Nat.ble 1025 o && Nat.ble (o+m) 66561 then some (m,jP im (o - 1025) m) else none
   |_=>none
 |_=>none
theorem BD (im:List (Nat×Nat)):∀(a m:Nat),(jP im a m).length=m
 |_,0=>rfl
 |a,m+1=>by rw[jP,yw,BD im (a+1) m]
theorem Ee (im:List (Nat×Nat))(n:Nat):∀(a m:Nat),oks n (jP im a m)
 |_,0=>trivial
 |a,m+1=>⟨trivial,Ee im n (a+1) m⟩
theorem BF (im:List (Nat×Nat))(ρ:Env):∀(a m j:Nat) (u:Value),(aH ρ (jP im a m))[j]? =some u→j < m∧u= .int .u8 (imD im (a+j)).toNat
 |_,0,j,u,h=>by simp[jP,aH] at h
 |a,m+1,0,u,h=>by
  simp only[jP,aH,cv,List.getElem?_cons_zero,Option.some.injEq] at h;subst h;refine⟨zy,?_⟩;simp[imD,bO]
 |a,m+1,j+1,u,h=>by
  simp only[jP,aH,List.getElem?_cons_succ] at h;obtain⟨h1,h2⟩:=BF im ρ (a+1) m j u h;refine⟨zy,?_⟩;rw[h2,wz,Nat.add_comm 1 j]
theorem jr {ρ:Env}{n:Nat}{bl:List (Nat×aF)}{w:World}(hr:∀b k,au b bl=some k→k.ok n∧k.rep ρ w b){sz m:Nat}{x:AV}{l:List AV}(h:lg bl sz x=some (m,l)):
 ∃A c,cv ρ x= .slice A m c∧l.length=m * sz∧Rd w (fun _=>True) A (aH ρ l)∧oks n l:=by
 unfold lg at h;split at h
 ·obtain⟨rfl,rfl⟩:=zm (zq h);exact⟨none,0,rfl,zw,Rd.nil _ _ _,trivial⟩
 ·obtain⟨rfl,rfl⟩:=zm (zq h);exact⟨_,_,rfl,zw,Rd.nil _ _ _,trivial⟩
 ·rename_i b o k m' c;split at h
  ·rename_i vs e op hb;split at h
   ·rename_i hle;have hle:=zk hle;obtain⟨rfl,rfl⟩:=zm (zq h);obtain⟨ho,hrep⟩:=hr b _ hb;refine⟨_,_,rfl,by simp;omega,fun _=>⟨_,rfl,trivial,fun j u hu=>?_⟩,iP (ku ho _) _⟩
    rw[lG] at hu
    cases hq:((vs.drop o).take (m' * sz))[j]? with
    |none=>rw[hq] at hu;cases hu
    |some v0=>
     rw[hq] at hu;obtain rfl:=zq hu;rw[addr_add];refine sW hrep (j:=o+j) ?_;rw[yj] at hq;split at hq
     ·rw[yg] at hq;exact hq
     ·cases hq
   ·cases h
  ·rename_i e im hb;split at h
   ·rename_i hc;simp only[Bool.and_eq_true] at hc;obtain rfl:=(beq_iff _ _).1 hc.1.1;have h1:=zk hc.1.2;have h2:=zk hc.2;obtain⟨rfl,rfl⟩:=zm (zq h);obtain⟨_,cs,hcs,hI⟩:=hr b _ hb;refine⟨_,_,rfl,by rw[BD];omega,fun _=>⟨_,rfl,trivial,fun j u hu=>?_⟩,Ee _ _ _ _⟩
    obtain⟨g1,g2⟩:=BF im ρ _ _ j u hu;rw[addr_add,g2];have:=hI.bytes (o - 1025+j) zy;have e2:1025+(o - 1025+j)=o+j:=zy;rw[e2] at this;simp only[World.cell?,hcs]
    simpa using this
   ·cases h
  ·cases h
 ·cases h
def ownB (op c:Option Nat)(n sz:Nat):Bool:=match op,c with
 |none,some c=>Nat.beq c n
 |some RJ,none=>Nat.beq RJ sz
 |_,_=>false
def uQ (T:bH)(W:AW)(s:Nat)(x y:AV):Option (AV×AW):=
 match T.get s with
 |some i=>match i.kd with
  | .slice e sz uZ=>match T.get e,lg W.bl sz y with
    |some ie,some (m,news)=>
     if news.all o7 && Nat.beq ie.size sz && Nat.beq ie.zero.length sz then
      match x with
      | .bT=>if Nat.beq m 0 then some (.bT,W) else if Nat.ble (m * (uZ+1)) 1099511627776 then
          some (.slice W.nx 0 0 m none,W.push (.cells news e (some sz))) else none
      | .slice b 0 0 n c=>match au b W.bl with
        |some (.cells vs e' op)=>
         if Nat.beq e' e && Nat.beq vs.length (n * sz) && ownB op c n sz && Nat.ble ((n+m) * (uZ+1)) 1099511627776 then
          if Nat.beq m 0 then some (.slice b 0 0 n c,W) else
          some (.slice W.nx 0 0 (n+m) none,⟨W.nx+1,(W.nx,.cells (vs++news) e (some sz))::uU b W.bl,addN b W.az,W.gl⟩)
         else none
        |_=>none
      |_=>none
     else none
    |_,_=>none
  |_=>none
 |none=>none
theorem sj (ρ:Env)(l l':List AV):aH ρ (l++l')=aH ρ l++aH ρ l':=by simp[bz]
theorem uR {l:List AV}(h:l.all o7=true)(ρ:Env):∀u∈aH ρ l,u.oneCell'=true:=fun u hu=>by
 rw[bz] at hu;obtain⟨x,hx,rfl⟩:=zX.1 hu;exact mE (zY.1 h x hx) ρ
theorem tK {w:World}{base e sz n:Nat}{v:Value}{xs:List Value}(h:w.ownsRow base e sz v n xs)(hn:0 < n):∃g cap cur,v= .slice (some ⟨g,0,none⟩) n cap∧g < w.heap.size∧w.heap[g]? =some (.cells cur e (0,0))∧n≤cap∧cap≤maxLen∧cur.size=cap * sz∧cur.toList.take (n * sz)=xs:=by
 rcases h.2 with⟨_,h0⟩|⟨g,cap,cur,h1,_,h3,h4⟩
 ·omega
 ·exact⟨g,cap,cur,h1,(zT.1 h3).1,h3,h4⟩
theorem Oy {P:Program}{T:bH}(hT:aZ P T){w0:World}{ρ:Env}{W W':AW}{w:World}(hW:aJ w0 ρ W w){s ty:Nat}{x y v:AV}(h:uQ T W s x y=some (v,W'))(hx:x.ok W.nx):
 ∃ρ' w',(Builtin.append_ #[s,s] ty #[cv ρ x,cv ρ y]).run P w= .ok (cv ρ' v) w'∧Post w0 ρ W w ρ' W' w'∧v.ok W'.nx:=by
 unfold uQ at h;split at h
 case h_2=>cases h
 case h_1 i hi=>
 split at h
 case h_2=>cases h
 case h_1 e sz uZ hk=>
 split at h
 case h_2=>cases h
 case h_1 ie m news hie hnews=>
 split at h
 case isFalse=>cases h
 case isTrue hc=>
 simp only[Bool.and_eq_true] at hc;obtain⟨⟨hone,hsz⟩,hzl⟩:=hc;have hzl:=(beq_iff _ _).1 hzl;have hsz:=(beq_iff _ _).1 hsz;obtain⟨hu,hs,hby,hpos⟩:=(hT s i hi).slice hk;obtain⟨f,z,hf,hfs,hfz,hzc⟩:=(hT e ie hie).info;have hr:∀b k,au b W.bl=some k→k.ok W.nx∧k.rep ρ w b:=fun b k hb=>⟨(hW.ok b k hb).2.1,hW.rep b k hb⟩
 obtain⟨A,c,hy,hlen,hrd,hno⟩:=jr hr hnews;have hzs:z.cells.size=sz:=by rw[← yZ,hzc,hzl]
 have rU:f.bytes=uZ:=by rw[hf] at hby;simpa using hby
 have E:El P s e z sz uZ:=⟨hu,by rw[hf];simp[hfz,hfs,hsz,rU],hzs,hpos⟩
 split at h
 ·split at h
  ·rename_i hm;obtain rfl:=(beq_iff _ _).1 hm;obtain⟨rfl,rfl⟩:=zm (zq h);obtain⟨v',w',hrun,_,_,_,hz⟩:=sQ E w 0 ty (.slice none 0 0) 0 [] (yx _ _ _ _) (fun _=>True) A 0 c (aH ρ news) (by rw[ay,hlen]) hrd (uR hone ρ) (by simp[maxLen]) zy (zF _)
   obtain⟨rfl,rfl⟩:=hz rfl;exact⟨ρ,w',by rw[hy];exact hrun,Post.refl hW,trivial⟩
  ·rename_i hm;have hm:¬m=0:=fun e=>hm ((beq_iff _ _).2 e)
   split at h
   case isFalse=>cases h
   case isTrue hb=>
   have hb:=zk hb;rw[Nat.mul_succ] at hb;obtain⟨rfl,rfl⟩:=zm (zq h);obtain⟨v',w',hrun,hown,hg,hat,_⟩:=sQ E w 0 ty (.slice none 0 0) 0 [] (yx _ _ _ _) (fun _=>True) A m c (aH ρ news) (by rw[ay,hlen]) hrd (uR hone ρ) (by simp only[maxLen];omega) (by rw[yD];omega) (zF _)
   obtain⟨g,cap,cur,rfl,q1,q2,q3,q4,q5,q6⟩:=tK hown zy
   have hgw:w.heap.size≤g:=by
    rcases hat with hat|hat
    ·simp[Value.ownBlock] at hat
    ·have:g=w.heap.size:=zq hat;omega
   have hgr:Gr w w' (fun _=>False):=(Gr.mF hg).mono fun i _ e=>by simp[Value.ownBlock] at e
   refine⟨_,w',?_,hW.new (c:=cap) hgr hgw q1 hno ?_,zS _⟩
   ·rw[hy];simp only[cv,Env.aM,Env.bX];rw[hrun,yD,ve]
   ·refine⟨m,cur,?_,?_,?_,?_,hlen,?_⟩
    ·rw[Env.aM];exact q2
    ·rw[Env.bX];omega
    ·rw[Env.bX];exact q4
    ·rw[Env.bX];exact q5
    ·rw[cz (Env.gu ρ W.nx g cap) news hno]
     simpa using q6
 ·rename_i b n c';split at h
  case h_2=>cases h
  case h_1 vs e' op hb=>
  split at h
  case isFalse=>cases h
  case isTrue hcc=>
  simp only[Bool.and_eq_true] at hcc;obtain⟨⟨⟨he,hvl⟩,hop⟩,hbd⟩:=hcc;obtain rfl:=(beq_iff _ _).1 he;have hvl:=(beq_iff _ _).1 hvl;have hbd:=zk hbd;rw[Nat.mul_succ] at hbd;have hrep:=hW.rep b _ hb
  have hown:w.ownsRow 0 e' sz (cv ρ (.slice b 0 0 n c')) n (aH ρ vs):=by
   refine⟨by rw[ay,hvl],.inr ?_⟩
   cases op with
   |none=>
    cases c' with
    |none=>cases hop
    |some c''=>
     have hop:c''=n:=(beq_iff _ _).1 hop;subst hop;refine⟨ρ.blk b,c'',_,rfl,zF _,hrep,zn _,by simp only[maxLen];omega,by simp[ay,hvl],yn (by simp[ay,hvl])⟩
   |some RJ=>
    cases c' with
    |some _=>cases hop
    |none=>
     have hop:RJ=sz:=(beq_iff _ _).1 hop;subst hop;obtain⟨n',cur,q1,q2,q3,q4,q5,q6⟩:=hrep;have hnn:n'=n:=by rw[hvl] at q5;exact (Nat.eq_of_mul_eq_mul_right hpos q5).symm
     subst hnn;exact⟨ρ.blk b,ρ.cap b,cur,by simp[cv],zF _,q1,q2,q3,q4,q6⟩
  obtain⟨v',w',hrun,hown',hg,hat,hz⟩:=sQ E w 0 ty _ n (aH ρ vs) hown (fun _=>True) A m c (aH ρ news) (by rw[ay,hlen]) hrd (uR hone ρ) (by simp only[maxLen];omega) zy (zF _)
  split at h
  ·rename_i hm;obtain rfl:=(beq_iff _ _).1 hm;obtain⟨rfl,rfl⟩:=zm (zq h);obtain⟨rfl,rfl⟩:=hz rfl;exact⟨ρ,w',by rw[hy];exact hrun,Post.refl hW,hx⟩
  ·rename_i hm;have hm:¬m=0:=fun e=>hm ((beq_iff _ _).2 e)
   obtain⟨rfl,rfl⟩:=zm (zq h);obtain⟨g,cap,cur,rfl,q1,q2,q3,q4,q5,q6⟩:=tK hown' zy
   have hgb:g=ρ.blk b∨w.heap.size≤g:=by
    rcases hat with hat|hat
    ·have:g=ρ.blk b:=zq hat;exact .inl this
    ·have:g=w.heap.size:=zq hat;exact .inr zy
   have hgr:Gr w w' (fun i=>ρ.blk b=i):=(Gr.mF hg).mono fun i _ e=>zq e
   have Ca:oks W.nx (vs++news):=bC (hW.ok b _ hb).2.1 hno;refine⟨_,w',?_,hW.turn (c:=cap) hb hgr hgb q1 Ca ?_,zS _⟩
   ·rw[hy];simp only[cv,Env.aM,Env.bX] at hrun ⊢;rw[hrun,ve]
   ·refine⟨n+m,cur,?_,?_,?_,?_,by rw[zL,hvl,hlen,Nat.add_mul],?_⟩
    ·rw[Env.aM];exact q2
    ·rw[Env.bX];exact q3
    ·rw[Env.bX];exact q4
    ·rw[Env.bX];exact q5
    ·rw[cz (Env.gu ρ W.nx g cap) _ Ca,sj];exact q6
 ·cases h
def Ku (T:bH)(t:TT)(W:AW):Op→Option (AV×AW)
 | .build s parts=>match T.get s with
   |some i=>match i.kd with
    | .struct fs=>(kK (fun f=>(fs[f]?).map fun y=>(y.1,y.2.2)) (i.zero.map gX) (parts.toList.map fun p=>(p.1,ev t p.2))).map fun l=>(.agg l,W)
    | .array _ _ sz=>(kK (fun j=>some (j * sz,sz)) (i.zero.map gX) (parts.toList.map fun p=>(p.1,ev t p.2))).map fun l=>(.agg l,W)
    |_=>none
   |none=>none
 | .slice s x lo hi none=>rF T W s (ev t x) (lo.map (ev t)) (hi.map (ev t))
 | .slice s x lo (some hi) (some mx)=>nk T W s (ev t x) (lo.map (ev t)) (ev t hi) (ev t mx)
 | .binOp op s x y _=>match op with
   | .eql=>(Vb T s (ev t x) (ev t y)).map fun b=>(.bool b,W)
   | .neq=>(Vb T s (ev t x) (ev t y)).map fun b=>(.bool (!b),W)
   |_=>none
 | .call c=>match c.callee with
   | .builtin .len=>match c.args.toList.map (ev t),c.argTypes.toList with
     |[.slice _ _ _ n _],[s]=>match T.get s with
      |some i=>match i.kd with | .slice _ _ _=>some (.int .i64 (.ofNat n),W)|_=>none
      |none=>none
     |[.FI _],[s]=>match T.get s with
      |some i=>match i.kd with | .slice _ _ _=>some (.int .i64 (.ofNat 0),W)|_=>none
      |none=>none
     |_,_=>none
   |_=>none
 |_=>none
def si (T:bH)(t:TT)(W:AW):Op→Option (AV×AW)
 | .load e x=>match uj T W.bl e (ev t x) with
   |some v=>some (v,W)
   |none=>(SY T W.gl e (ev t x)).map (·,W)
 | .store e x y=>(Ja T W.bl e (ev t y) (ev t x)).map fun r=>(.tuple [],⟨W.nx,ib r.1 r.2 W.bl,addN r.1 W.az,W.gl⟩)
 | .alloc e=>match T.get e with
   |some i=>some (.ptr W.nx 0,W.push (.cells (i.zero.map gX) e none))
   |none=>none
 | .box e x=>if (dQ (ev t x)).all o7 then some (.ptr W.nx 0,W.push (.cells (dQ (ev t x)) e none)) else none
 | .buildSlice s len parts=>match T.get s with
   |some i=>match i.kd with
    | .slice e sz _=>match T.get e with
      |some ie=>
       if Nat.beq ie.size sz && Nat.ble (len * sz) 65536 then
        (kK (fun j=>some (j * sz,sz)) ((List.range (len * sz)).map fun k=>gX (ie.zero.toArray[k % ie.zero.toArray.size]!)) (parts.toList.map fun p=>(p.1,ev t p.2))).map fun l=>(.slice W.nx 0 0 len (some len),W.push (.cells l e none))
       else none
      |none=>none
    |_=>none
   |none=>none
 | .call c=>match c.callee with
   | .builtin .append=>match c.args.toList.map (ev t),c.argTypes.toList with
     |[x,y],[s,s']=>if Nat.beq s s' then uQ T W s x y else none
     |_,_=>none
   |_=>none
 |_=>none
section
variable {P:Program} {T:bH}
theorem Zl {α β:Type}{f:α→β}{a:Array α}{x y:β}(h:a.toList.map f=[x,y]):∃p q,a=#[p,q]∧f p=x∧f q=y:=by
 rcases a with⟨l⟩
 match l,h with
 |[p,q],h=>exact⟨p,q,rfl,by simpa using h⟩
theorem M9 {α β:Type}{f:α→β}{a:Array α}{x:β}(h:a.toList.map f=[x]):∃p,a=#[p]∧f p=x:=by
 rcases a with⟨l⟩
 match l,h with
 |[p],h=>exact⟨p,rfl,by simpa using h⟩
theorem Q7 {α:Type}{a:Array α}{l:List α}(h:a.toList=l):a=l.toArray:=by rw[← h]
theorem oZ {ρ:Env}{n N:Nat}{t:TT}{a:Act}(ht:aS ρ n N t a)(parts:Array (Nat×Operand)):∀x∈parts.toList.map (fun p=>(p.1,ev t p.2)),x.2.ok n:=fun x hx=>by
 obtain⟨p,_,rfl⟩:=zX.1 hx;exact ht.fQ p.2
theorem Ae:∀(fields:List Field) (fs:List (Nat×Nat×Nat)),fields.map (fun f=>(f.offset,f.type))=fs.map (fun x=>(x.1,x.2.1))→(∀x∈fs,kZ P x.2.1 x.2.2=true)→
 fields.mapM (fun f=>(P.info? f.type).map fun i=>(f.offset,i.size))=some (fs.map fun y=>(y.1,y.2.2))
 |[],[],_,_=>rfl
 |[],_::_,h,_=>by simp at h
 |_::_,[],h,_=>by simp at h
 |f::fields,x::fs,h,hs=>by
  simp only[List.map_cons,List.cons.injEq,Prod.mk.injEq] at h;obtain⟨⟨h1,h2⟩,h3⟩:=h;have ih:=Ae fields fs h3 fun y hy=>hs y (ze _ hy)
  have hx:=hs x zb;unfold kZ at hx;rw[← h2] at hx
  cases hq:P.info? f.type with
  |none=>simp[hq] at hx
  |some i=>
   simp[hq] at hx;simp[List.mapM_cons,hq,ih,h1,hx]
theorem Si (hT:aZ P T){ρ:Env}{n N:Nat}{t:TT}{a:Act}{w:World}{op:BinOp}{s ty:Nat}{x y:Operand}{dst:Option Tmp}{type:TypeId}{pos:String}{after:Array Edge}{guard:Option (Nat×Bool)}{b r:Bool}(ht:aS ρ n N t a)(h:Vb T s (ev t x) (ev t y)=some b)(ho:(op= .eql∧r=b)∨(op= .neq∧r= !b)):
 (execOp a.eval (⟨dst,.binOp op s x y ty,type,pos,after,guard⟩:Oper)).run P w= .ok (.value (cv ρ (.bool r))) w:=by
 have hr:=YQ hT (ρ:=ρ) (w:=w) h;have hx:=ht.eval x;have hy:=ht.eval y;unfold Vb at h;split at h
 ·rename_i e1 e2;rw[e1] at hx hr;rw[e2] at hy hr;rcases ho with⟨rfl,rfl⟩|⟨rfl,rfl⟩<;>simp only[execOp,hx,hy,cv,binOp,eqGuard]<;>simp only[cv] at hr<;>simp[hr]
 ·rename_i e1 e2;rw[e1] at hx hr;rw[e2] at hy hr;rcases ho with⟨rfl,rfl⟩|⟨rfl,rfl⟩<;>simp only[execOp,hx,hy,cv,binOp,eqGuard]<;>simp only[cv] at hr<;>simp[hr]
 ·rename_i b' o' k' m' c' e1 e2;rw[e1] at hx hr;rw[e2] at hy hr
  cases c'<;>rcases ho with⟨rfl,rfl⟩|⟨rfl,rfl⟩<;>simp only[execOp,hx,hy,cv,binOp,eqGuard]<;>simp only[cv] at hr<;>simp[hr]
 ·rename_i e1 e2;rw[e1] at hx hr;rw[e2] at hy hr;rcases ho with⟨rfl,rfl⟩|⟨rfl,rfl⟩<;>simp only[execOp,hx,hy,cv,binOp,eqGuard]<;>simp only[cv] at hr<;>simp[hr]
 ·cases h
theorem nA (o:Obj)(w:World):(Sem.new o Sem.pure).run P w= .ok w.heap.size (w.alloc o):=rfl
theorem ER (hT:aZ P T){w0:World}{ρ:Env}{N:Nat}{t:TT}{a:Act}{W W':AW}{w:World}(ht:aS ρ W.nx N t a)(hW:aJ w0 ρ W w){o:Oper}{v:AV}(h:Ku T t W o.op=some (v,W')):
 ∃ρ',(∀w2,(execOp a.eval o).run P w2= .ok (.value (cv ρ' v)) w2)∧Post w0 ρ W w ρ' W' w∧v.ok W'.nx:=by
 obtain⟨dst,op,type,pos,after,guard⟩:=o;dsimp only at h;unfold Ku at h;split at h
 ·rename_i s parts;split at h
  case h_2=>cases h
  case h_1 i hi=>
  obtain⟨f,z,hf,hfs,hfz,hzc⟩:=(hT s i hi).info;have hz:z.cells=(aH ρ (i.zero.map gX)).toArray:=by rw[kL,← hzc]
  have hp:(parts.map fun (x:Nat×Operand)=>(x.1,a.eval x.2)).toList=(parts.toList.map fun p=>(p.1,ev t p.2)).map fun x=>(x.1,cv ρ x.2):=by simp[ht.eval]
  split at h
  ·rename_i fs hk;obtain⟨l,hl,h2⟩:=zi.1 h;obtain⟨rfl,rfl⟩:=zm h2;obtain⟨fields,h1,h2,h3⟩:=(hT s i hi).struct hk;have uq:=mQ (ρ:=ρ) _ _ hl;refine⟨ρ,fun w2=>?_,Post.refl hW,mR _ _ hl (iq _ _) (oZ ht parts)⟩
   have hpl:=Ae fields.toList fs h2 fun x hx=>(h3 x hx).1
   have hb:P.built s (parts.map fun (x:Nat×Operand)=>(x.1,a.eval x.2)).toList=some (aH ρ l).toArray:=by
    unfold Program.built;simp only[hf,h1,hfz,hpl,hp,hz];rw[← uq]
    congr 1
    funext f
    simp
   have:=run_build w2 s _ _ hb;simp only[execOp,Sem.run_bind,this,Result.andThen_ok,Sem.run_pure,cv]
  ·rename_i n e sz hk;obtain⟨l,hl,h2⟩:=zi.1 h;obtain⟨rfl,rfl⟩:=zm h2;obtain⟨h1,h2⟩:=(hT s i hi).array hk;have uq:=mQ (ρ:=ρ) _ _ hl;refine⟨ρ,fun w2=>?_,Post.refl hW,mR _ _ hl (iq _ _) (oZ ht parts)⟩
   simp only[execOp,Instr.build,zeroValue,typeInfo,Sem.run_bind,run_program,Result.andThen_ok,hf,hfz,Sem.run_pure,run_underlying h1,gp h2,hp,hz,uq,cv]
  ·cases h
 ·rename_i s x lo hi;obtain⟨ρ',h1,h2,h3⟩:=Pt hT hW h (ht.fQ x);refine⟨ρ',fun w2=>?_,h2,h3⟩
  have e1:∀q:Option Operand,q.map a.eval=(q.map (ev t)).map (cv ρ):=fun q=>by cases q<;>simp[ht.eval]
  simp only[execOp,ht.eval,e1,Option.map_none,Sem.run_bind,h1,Result.andThen_ok,Sem.run_pure]
 ·rename_i s x lo hi mx;obtain⟨rfl,h1,h2⟩:=L8 hT hW h (ht.fQ x);refine⟨ρ,fun w2=>?_,Post.refl hW,h2⟩
  have e1:∀q:Option Operand,q.map a.eval=(q.map (ev t)).map (cv ρ):=fun q=>by cases q<;>simp[ht.eval]
  simp only[execOp,ht.eval,e1,Option.map_some,Sem.run_bind,h1,Result.andThen_ok,Sem.run_pure]
 ·rename_i op s x y ty;split at h
  ·obtain⟨b,hb,h2⟩:=zi.1 h;obtain⟨rfl,rfl⟩:=zm h2;refine⟨ρ,fun w2=>?_,Post.refl hW,trivial⟩
   exact Si hT (op:=.eql) (w:=w2) ht hb (.inl ⟨rfl,rfl⟩)
  ·obtain⟨b,hb,h2⟩:=zi.1 h;obtain⟨rfl,rfl⟩:=zm h2;refine⟨ρ,fun w2=>?_,Post.refl hW,trivial⟩
   exact Si hT (op:=.neq) (w:=w2) ht hb (.inr ⟨rfl,rfl⟩)
  ·cases h
 ·rename_i c;obtain⟨callee,args,ats⟩:=c;dsimp only at h;split at h
  case h_2=>cases h
  case h_1=>
  split at h
  ·rename_i b o k n cp s ha hs;split at h
   case h_2=>cases h
   case h_1 i hi=>
   split at h
   case h_2=>cases h
   case h_1 e sz uZ hk=>
   obtain⟨rfl,rfl⟩:=zm (zq h);obtain⟨p,rfl,hp⟩:=M9 ha;obtain rfl:=Q7 hs;obtain⟨hu,_⟩:=(hT s i hi).slice hk;refine⟨ρ,fun w2=>?_,Post.refl hW,trivial⟩
   have hx:=ht.eval p;rw[hp] at hx
   cases cp<;>simp[execOp,resolve,invoke,builtin,Builtin.len_,hx,cv,run_underlying hu,goInt]
  ·rename_i j s ha hs;split at h
   case h_2=>cases h
   case h_1 i hi=>
   split at h
   case h_2=>cases h
   case h_1 e sz uZ hk=>
   obtain⟨rfl,rfl⟩:=zm (zq h);obtain⟨p,rfl,hp⟩:=M9 ha;obtain rfl:=Q7 hs;obtain⟨hu,_⟩:=(hT s i hi).slice hk;refine⟨ρ,fun w2=>?_,Post.refl hW,trivial⟩
   have hx:=ht.eval p;rw[hp] at hx;simp[execOp,resolve,invoke,builtin,Builtin.len_,hx,cv,run_underlying hu,goInt]
  ·cases h
 ·cases h
theorem uH (hT:aZ P T){w0:World}{ρ:Env}{N:Nat}{t:TT}{a:Act}{W W':AW}{w:World}(ht:aS ρ W.nx N t a)(hW:aJ w0 ρ W w){o:Oper}{v:AV}(h:si T t W o.op=some (v,W')):
 ∃ρ' w',((execOp a.eval o).run P w= .ok (.value (cv ρ' v)) w'∨((execOp a.eval o).run P w= .ok .skip w'∧v= .tuple []))∧Post w0 ρ W w ρ' W' w'∧v.ok W'.nx:=by
 have hr:∀b k,au b W.bl=some k→k.ok W.nx∧k.rep ρ w b:=fun b k hb=>⟨(hW.ok b k hb).2.1,hW.rep b k hb⟩
 obtain⟨dst,op,type,pos,after,guard⟩:=o;dsimp only at h;unfold si at h;split at h
 ·rename_i e x;split at h
  ·rename_i u hu;obtain⟨rfl,rfl⟩:=zm (zq h);obtain⟨h1,h3⟩:=qC hT (fun b _ _ k=>hr b k) hu
   refine⟨ρ,w,.inl ?_,Post.refl hW,h3⟩;simp only[execOp,ht.eval,Sem.run_bind,h1,Result.andThen_ok,Sem.run_pure]
  ·obtain⟨u,hu,h2⟩:=zi.1 h;obtain⟨rfl,rfl⟩:=zm h2;obtain⟨h1,h3⟩:=Aw (ρ:=ρ) hT (n:=W.nx) hW.QC hu;refine⟨ρ,w,.inl ?_,Post.refl hW,h3⟩;simp only[execOp,ht.eval,Sem.run_bind,h1,Result.andThen_ok,Sem.run_pure]
 ·rename_i e x y;obtain⟨⟨b,k⟩,hu,h2⟩:=zi.1 h;obtain⟨rfl,rfl⟩:=zm h2;obtain⟨w',h1,h3⟩:=Ps hT hW hu (ht.fQ y);refine⟨ρ,w',.inr ⟨?_,rfl⟩,h3,trivial⟩;simp only[execOp,ht.eval,Sem.run_bind,h1,Result.andThen_ok,Sem.run_pure]
 ·rename_i e;split at h
  ·rename_i i hi;obtain⟨rfl,rfl⟩:=zm (zq h);obtain⟨f,z,hf,hfs,hfz,hzc⟩:=(hT e i hi).info;refine⟨_,_,.inl ?_,hW.row (iq W.nx i.zero) e,zS _⟩;have hz:z.cells=i.zero.toArray:=by rw[← hzc]
   simp only[cv,Env.aM,kL];simp[execOp,Instr.alloc,zeroValue,typeInfo,hf,hfz,newVar,newRow,newObj,hz,nA]
  ·cases h
 ·rename_i e x;split at h
  ·rename_i hone;obtain⟨rfl,rfl⟩:=zm (zq h);refine⟨_,_,.inl ?_,hW.row (Bb (ht.fQ x)) e,zS _⟩;have hz:(cv ρ (ev t x)).cells=(aH ρ (dQ (ev t x))).toArray:=by rw[← nM hone ρ]
   simp only[cv,Env.aM];simp[execOp,ht.eval,Instr.box,newVar,newRow,newObj,hz,nA]
  ·cases h
 ·rename_i s len parts;split at h
  case h_2=>cases h
  case h_1 i hi=>
  split at h
  case h_2=>cases h
  case h_1 e sz uZ hk=>
  split at h
  case h_2=>cases h
  case h_1 ie hie=>
  split at h
  case isFalse=>cases h
  case isTrue hc=>
  simp only[Bool.and_eq_true] at hc;have hsz:=(beq_iff _ _).1 hc.1;have hle:=zk hc.2;obtain⟨l,hl,h2⟩:=zi.1 h;obtain⟨rfl,rfl⟩:=zm h2;obtain⟨hu,hs,_,hpos⟩:=(hT s i hi).slice hk;obtain⟨f,z,hf,hfs,hfz,hzc⟩:=(hT e ie hie).info;have hz:z.cells=ie.zero.toArray:=by rw[← hzc]
  have uq:=mQ (ρ:=ρ) _ _ hl
  have hol:oks W.nx l:=mR _ _ hl ((bQ _ _).2 fun v hv=>by
   obtain⟨k,_,rfl⟩:=zX.1 hv;exact nQ _ _) (oZ ht parts)
  have hp:(parts.map fun (x:Nat×Operand)=>(x.1,a.eval x.2)).toList=(parts.toList.map fun p=>(p.1,ev t p.2)).map fun x=>(x.1,cv ρ x.2):=by simp[ht.eval]
  have hcs:(aH ρ ((List.range (len * sz)).map fun k=>gX (ie.zero.toArray[k % ie.zero.toArray.size]!))).toArray=(Array.range (len * sz)).map fun k=>ie.zero.toArray[k % ie.zero.toArray.size]!:=by
   apply yE;simp[bz,qH,Function.comp_def]
  rw[hcs] at uq;refine⟨_,_,.inl ?_,hW.row hol e,zS _⟩;have hbig:¬(len * sz > 2 ^ 24):=zy;simp only[cv,Env.aM];by_cases h0:len * sz=0
  ·have e0:((Array.range (len * sz)).map fun k=>(#[]:Array Value)[k % (#[]:Array Value).size]!)=(Array.range (len * sz)).map fun k=>ie.zero.toArray[k % ie.zero.toArray.size]!:=by rw[h0];simp
   simp only[execOp,Instr.buildSlice,Sem.run_bind,run_underlying hu,Result.andThen_ok,gp hs,if_neg hbig,if_pos h0,Sem.run_pure,e0,hp,uq,newRow,newObj,nA]
  ·have hzv:(zeroValue e).run P w= .ok z w:=by simp[zeroValue,typeInfo,hf,hfz]
   simp only[execOp,Instr.buildSlice,Sem.run_bind,run_underlying hu,Result.andThen_ok,gp hs,if_neg hbig,if_neg h0,Sem.run_pure,hzv,hz,hp,uq,newRow,newObj,nA]
 ·rename_i c;obtain⟨callee,args,ats⟩:=c;dsimp only at h;split at h
  case h_2=>cases h
  case h_1=>
  split at h
  ·rename_i x y s s' ha hs;split at h
   ·rename_i hss;obtain rfl:=(beq_iff _ _).1 hss;obtain⟨p,q,rfl,rfl,rfl⟩:=Zl ha;obtain rfl:=Q7 hs;obtain⟨ρ',w',h1,h2,h3⟩:=Oy (ty:=type) hT hW h (ht.fQ p);refine⟨ρ',w',.inl ?_,h2,h3⟩;simp only[execOp,resolve,Sem.run_bind,Sem.run_pure,Result.andThen_ok,invoke,builtin,List.map_toArray,List.map_cons,List.map_nil,ht.eval,h1]
   ·cases h
  ·cases h
 ·cases h
end
def aee:IntKind→Nat
 | .i64=>9223372036854775808
 | .u8=>256
 | .i32=>2147483648
 | .u64=>18446744073709551616
 | .u32=>4294967296
 |_=>0
theorem wrap_small {k:IntKind}{n:Nat}(h:n < aee k):k.wrap (n:Int)=(n:Int):=by
 cases k<;>simp only[aee] at h<;>first
  |omega
  |(rw[IntKind.wrap_i64];omega)
  |(rw[IntKind.wrap_u8];omega)
  |(rw[IntKind.wrap_i32];omega)
  |(rw[IntKind.wrap_u64];omega)
  |(rw[IntKind.wrap_u32];omega)
def U6 (k:IntKind)(n:Nat):Option AV:=cond (Nat.blt n (aee k)) (some (.int k (.ofNat n))) none
def JV (op:BinOp)(k:IntKind)(a b:Nat):Option AV:=
 match op with
 | .add=>U6 k (Nat.add a b)
 | .sub=>cond (Nat.ble b a) (U6 k (Nat.sub a b)) none
 | .mul=>U6 k (Nat.mul a b)
 | .eql=>some (.bool (Nat.beq a b))
 | .neq=>some (.bool (!Nat.beq a b))
 | .lss=>some (.bool (Nat.blt a b))
 | .leq=>some (.bool (Nat.ble a b))
 | .gtr=>some (.bool (Nat.blt b a))
 | .geq=>some (.bool (Nat.ble b a))
 |_=>none
theorem qx {k:IntKind}{n:Nat}{v:AV}(h:U6 k n=some v)(ρ:Env):cv ρ v= .int k (k.wrap (n:Int))∧∀m,v.ok m:=by
 unfold U6 at h
 cases hn:Nat.blt n (aee k) with
 |false=>rw[hn] at h;cases h
 |true=>
 rw[hn] at h;obtain rfl:=zq h;rw[wrap_small (aK hn)];exact⟨rfl,fun m=>trivial⟩
theorem Qv {P:Program}{op:BinOp}{k:IntKind}{a b:Nat}{v:AV}(h:JV op k a b=some v)(ρ:Env)(s:Nat)(w:World):(binOp op s (.int k (a:Int)) (.int k (b:Int))).run P w= .ok (cv ρ v) w∧∀m,v.ok m:=by
 unfold JV at h;split at h
 ·obtain⟨h1,h2⟩:=qx h ρ;refine⟨?_,h2⟩;rw[h1];simp[binOp,Op.intArith]
 ·cases hb:Nat.ble b a with
  |false=>rw[hb] at h;cases h
  |true=>
  rw[hb] at h;have hb:=zk hb;obtain⟨h1,h2⟩:=qx h ρ;refine⟨?_,h2⟩;rw[h1]
  have e:((Nat.sub a b:Nat):Int)=(a:Int) - (b:Int):=by
   show ((a - b:Nat):Int)=_;omega
  rw[e];simp[binOp,Op.intArith]
 ·obtain⟨h1,h2⟩:=qx h ρ;refine⟨?_,h2⟩;rw[h1]
  have e:((Nat.mul a b:Nat):Int)=(a:Int) * (b:Int):=by
   show ((a * b:Nat):Int)=_;simp
  rw[e];simp[binOp,Op.intArith]
 all_goals first
  |(obtain rfl:=zq h
    refine⟨?_,fun m=>trivial⟩
    have e0:((a:Int) == (b:Int))=Nat.beq a b:=by rw[yX,beq_iff_eq,beq_iff];omega
    have e1:((a:Int) != (b:Int))= !Nat.beq a b:=by rw[← e0];rfl
    simp only[binOp,Op.intCmp,cv];simp[e0,e1]
    first
     |done
     |(rw[yX];simp[Nat.blt_eq];done)
     |(rw[yX];simp[beq_iff];done)
     |(rw[yX];simp[Nat.ble_eq];done)
     |skip)
  |cases h
def NW:List Nat→List Nat→Bool
 |[],[]=>true
 |x::l,y::m=>if Nat.beq (bO x) (bO y) then NW l m else false
 |_,_=>false
theorem ofNat_eq (x y:Nat):UInt8.ofNat x=UInt8.ofNat y↔bO x=bO y:=by
 rw[← xM];simp[bO]
theorem uF:∀(l m:List Nat),NW l m=true↔l.map UInt8.ofNat=m.map UInt8.ofNat
 |[],[]=>by simp[NW]
 |[],_::_=>by simp[NW]
 |_::_,[]=>by simp[NW]
 |x::l,y::m=>by
  simp only[NW,List.map_cons,List.cons.injEq,ofNat_eq];split
  ·rename_i h;have h:=(beq_iff _ _).1 h;rw[uF l m];simp[h]
  ·rename_i h;have h:¬bO x=bO y:=fun e=>h ((beq_iff _ _).2 e)
   simp[h]
def ajW (d:Nat):Option AV→Option Nat
 |none=>some d
 |some v=>gK v
def agn:IntKind→Nat
 | .i8=>0 | .i16=>1 | .i32=>2 | .i64=>3 | .u8=>4 | .u16=>5 | .u32=>6 | .u64=>7
def ZA (k k':IntKind):Bool:=Nat.beq (agn k) (agn k')
theorem Eb {k k':IntKind}(h:ZA k k'=true):k=k':=by
 cases k<;>cases k'<;>first|rfl|(exact absurd h zx)
def dA:Int→Int→Bool
 | .ofNat a,.ofNat b=>Nat.blt a b
 | .ofNat _,.negSucc _=>false
 | .negSucc _,.ofNat _=>true
 | .negSucc a,.negSucc b=>Nat.blt b a
theorem cZ {a b:Int}:dA a b=true↔a < b:=by
 cases a with
 |ofNat a=>cases b with
  |ofNat b=>
   show Nat.blt a b=true↔(a:Int) < (b:Int);rw[Nat.blt_eq];omega
  |negSucc b=>
   show false=true↔(a:Int) < Int.negSucc b;simp only[Bool.false_eq_true,false_iff];omega
 |negSucc a=>cases b with
  |ofNat b=>
   show true=true↔Int.negSucc a < (b:Int);simp only[true_iff];omega
  |negSucc b=>
   show Nat.blt b a=true↔Int.negSucc a < Int.negSucc b;rw[Nat.blt_eq];omega
def Gt (n:Int):List (Int×Int×Bool)→Option Bool
 |[]=>none
 |f::l=>cond f.2.2 (cond (dA f.2.1 n) (some true) (cond (dA f.1 n) (Gt n l) (some false))) (Gt n l)
def Gv (n:Int):List (Int×Int×Bool)→Option Bool
 |[]=>none
 |f::l=>cond f.2.2 (cond (dA n f.1) (some true) (cond (dA n f.2.1) (Gv n l) (some false))) (Gv n l)
def Dg (n:Int):List (Int×Int×Bool)→Option Bool
 |[]=>none
 |f::l=>cond f.2.2 (cond (dA n f.1) (some false) (cond (dA f.2.1 n) (some false) (cond (dA f.1 n) (Dg n l) (cond (dA n f.2.1) (Dg n l) (some true))))) (Dg n l)
theorem RL {f:Int×Int×Bool}{l:List (Int×Int×Bool)}{x:Int}(h:kM (f::l) x)(hf:f.2.2=true):f.1≤x∧x≤f.2.1:=by
 have:=h f zb;rw[hf] at this
 simpa only[Bool.and_eq_true,decide_eq_true_eq] using this
theorem De {f:Int×Int×Bool}{l:List (Int×Int×Bool)}{x:Int}(h:kM (f::l) x):kM l x:=fun g hg=>h g (ze _ hg)
theorem sJ {n x:Int}:∀{fs:List (Int×Int×Bool)} {r:Bool},Gt n fs=some r→kM fs x→decide (x < n)=r
 |[],_,h,_=>by cases h
 |f::l,r,h,hk=>by
  unfold Gt at h
  cases hf:f.2.2 with
  |false=>rw[hf] at h;exact sJ h (De hk)
  |true=>
   have:=RL hk hf;rw[hf] at h;simp only[cond_true] at h
   cases h1:dA f.2.1 n with
   |true=>
    rw[h1] at h;obtain rfl:=zq h;have:=cZ.1 h1;simp;omega
   |false=>
    rw[h1] at h
    cases h2:dA f.1 n with
    |true=>rw[h2] at h;exact sJ h (De hk)
    |false=>
     rw[h2] at h;obtain rfl:=zq h;have:¬f.1 < n:=fun e=>by rw[cZ.2 e] at h2;cases h2
     simp;omega
theorem sK {n x:Int}:∀{fs:List (Int×Int×Bool)} {r:Bool},Gv n fs=some r→kM fs x→decide (n < x)=r
 |[],_,h,_=>by cases h
 |f::l,r,h,hk=>by
  unfold Gv at h
  cases hf:f.2.2 with
  |false=>rw[hf] at h;exact sK h (De hk)
  |true=>
   have:=RL hk hf;rw[hf] at h;simp only[cond_true] at h
   cases h1:dA n f.1 with
   |true=>
    rw[h1] at h;obtain rfl:=zq h;have:=cZ.1 h1;simp;omega
   |false=>
    rw[h1] at h
    cases h2:dA n f.2.1 with
    |true=>rw[h2] at h;exact sK h (De hk)
    |false=>
     rw[h2] at h;obtain rfl:=zq h;have:¬n < f.2.1:=fun e=>by rw[cZ.2 e] at h2;cases h2
     simp;omega
theorem oN {n x:Int}:∀{fs:List (Int×Int×Bool)} {r:Bool},Dg n fs=some r→kM fs x→(x == n)=r
 |[],_,h,_=>by cases h
 |f::l,r,h,hk=>by
  unfold Dg at h
  cases hf:f.2.2 with
  |false=>rw[hf] at h;exact oN h (De hk)
  |true=>
   have:=RL hk hf;rw[hf] at h;simp only[cond_true] at h
   cases h1:dA n f.1 with
   |true=>
    rw[h1] at h;obtain rfl:=zq h;have:=cZ.1 h1;simp;omega
   |false=>
    rw[h1] at h
    cases h2:dA f.2.1 n with
    |true=>
     rw[h2] at h;obtain rfl:=zq h;have:=cZ.1 h2;simp;omega
    |false=>
     rw[h2] at h;have n1:¬n < f.1:=fun e=>by rw[cZ.2 e] at h1;cases h1
     have n2:¬f.2.1 < n:=fun e=>by rw[cZ.2 e] at h2;cases h2
     cases h3:dA f.1 n with
     |true=>rw[h3] at h;exact oN h (De hk)
     |false=>
      rw[h3] at h;have n3:¬f.1 < n:=fun e=>by rw[cZ.2 e] at h3;cases h3
      cases h4:dA n f.2.1 with
      |true=>rw[h4] at h;exact oN h (De hk)
      |false=>
       rw[h4] at h;obtain rfl:=zq h;have n4:¬n < f.2.1:=fun e=>by rw[cZ.2 e] at h4;cases h4
       simp;omega
def Pq (op:BinOp)(n:Int)(fs:List (Int×Int×Bool)):Option Bool:=
 match op with
 | .eql=>Dg n fs
 | .neq=>(Dg n fs).map (!·)
 | .lss=>Gt n fs
 | .geq=>(Gt n fs).map (!·)
 | .gtr=>Gv n fs
 | .leq=>(Gv n fs).map (!·)
 |_=>none
theorem Pp {P:Program}{op:BinOp}{n x:Int}{fs:List (Int×Int×Bool)}{r:Bool}(h:Pq op n fs=some r)(hk:kM fs x)(s:Nat)(w:World):(binOp op s (.int .i64 x) (.int .i64 n)).run P w= .ok (.bool r) w:=by
 unfold Pq at h;split at h
 ·have:=oN h hk;simp[binOp,Op.intCmp,this]
 ·obtain⟨q,hq,rfl⟩:=zi.1 h;have:=oN hq hk;simp[binOp,Op.intCmp,bne,this]
 ·have:=sJ h hk;simp[binOp,Op.intCmp,this]
 ·obtain⟨q,hq,rfl⟩:=zi.1 h;have:=sJ hq hk
  have e:decide (n≤x)= !q:=by
   rw[← this];by_cases hh:x < n
   ·simp[hh,Int.not_le.2 hh]
   ·simp[hh,Int.not_lt.1 hh]
  simp[binOp,Op.intCmp,e]
 ·have:=sK h hk;simp[binOp,Op.intCmp,this]
 ·obtain⟨q,hq,rfl⟩:=zi.1 h;have:=sK hq hk
  have e:decide (x≤n)= !q:=by
   rw[← this];by_cases hh:n < x
   ·simp[hh,Int.not_le.2 hh]
   ·simp[hh,Int.not_lt.1 hh]
  simp[binOp,Op.intCmp,e]
 ·cases h
def XE (T:bH)(t:TT):Op→Option AV
 | .index s x ix=>match T.get s,ev t x,gK (ev t ix) with
   |some i,.str l,some j=>match i.kd with
    | .string=>(l[j]?).map fun c=>.int .u8 (.ofNat (bO c))
    |_=>none
   |_,_,_=>none
 | .slice s x lo hi none=>match T.get s,ev t x with
   |some i,.str l=>match i.kd with
    | .string=>match ajW 0 (lo.map (ev t)),ajW l.length (hi.map (ev t)) with
      |some a,some b=>if Nat.ble a b && Nat.ble b l.length then some (.str ((l.drop a).take (b - a))) else none
      |_,_=>none
    |_=>none
   |_,_=>none
 | .binOp op _ x y _=>match ev t x,ev t y with
   | .str l,.str m=>match op with
     | .eql=>some (.bool (NW l m))
     | .neq=>some (.bool (!NW l m))
     | .add=>if Nat.ble (l.length+m.length) 1099511627776 then some (.str (l++m)) else none
     |_=>none
   | .int k (.ofNat a),.int k' (.ofNat b)=>cond (ZA k k') (JV op k a b) none
   | .sym fs _,.int k n=>cond (ZA .i64 k) ((Pq op n fs).map .bool) none
   |_,_=>none
 | .unOp .not _ x=>match ev t x with
   | .bool b=>some (.bool (!b))
   |_=>none
 | .call c=>match c.callee with
   | .builtin .len=>match c.args.toList.map (ev t),c.argTypes.toList with
     |[.str l],[s]=>match T.get s with
      |some i=>match i.kd with | .string=>some (.int .i64 (.ofNat l.length))|_=>none
      |none=>none
     |_,_=>none
   |_=>none
 | .convert s d x=>match T.get s,T.get d,ev t x with
   |some _,some i,.int _ n=>match i.kd with
    | .int k=>match n with
      | .ofNat m=>match U6 k m with
        |some v=>some v
        |none=>some (.int k (k.wrap n))
      |_=>some (.int k (k.wrap n))
    |_=>none
   |_,_,_=>none
 |_=>none
theorem aC (l:List Nat):(ag l).size=l.length:=by simp[ag,ByteArray.size]
theorem Ir (l:List Nat):(ag l).toList=l.map UInt8.ofNat:=ByteArray.toList_mk _
theorem uP (l m:List Nat):((ag l).toList == (ag m).toList)=NW l m:=by
 rw[Ir,Ir,yX,uF];simp
theorem Ot (l m:List Nat):ag l++ag m=ag (l++m):=by
 apply xn;simp[ag,ByteArray.data_append]
theorem nN (l:List Nat)(a b:Nat):(ag l).extract a b=ag ((l.drop a).take (b - a)):=by
 apply xn;simp[ag,ByteArray.data_extract,List.map_take,List.map_drop,List.extract_eq_take_drop]
theorem Iy {d a:Nat}{lo:Option AV}(h:ajW d lo=some a)(ρ:Env):(lo.map (cv ρ)=none∧a=d)∨∃k,lo.map (cv ρ)=some (.int k (a:Int)):=by
 cases lo with
 |none=>exact .inl ⟨rfl,(zq h).symm⟩
 |some v=>
  obtain⟨k,rfl⟩:=bV h;exact .inr ⟨k,rfl⟩
theorem nO {P:Program}{w:World}{k:IntKind}{j y:Nat}{code:BoundsCode}(h:j≤y):(Instr.sliceBound (.int k (j:Int)) y code).run P w= .ok j w:=by
 have c1:(0:Int)≤(j:Int)∧(j:Int)≤(y:Int):=⟨zy,zy⟩;simp only[Instr.sliceBound,asIntOf,Sem.run_bind,Sem.run_pure,Result.andThen_ok,if_pos c1,Int.toNat_natCast]
theorem Uu {P:Program}{w:World}{s a b:Nat}{S:ByteArray}{lo hi:Option Value}(hu:P.underlying s=some .string)
 (hlo:(lo=none∧a=0)∨∃k,lo=some (.int k (a:Int))) (hhi:(hi=none∧b=S.size)∨∃k,hi=some (.int k (b:Int))) (h1:a≤b) (h2:b≤S.size):
 (Instr.sliceAt s (.string S) lo hi none).run P w= .ok (.string (S.extract a b)) w:=by
 rcases hlo with⟨rfl,rfl⟩|⟨k,rfl⟩<;>rcases hhi with⟨rfl,rfl⟩|⟨k',rfl⟩
 ·simp[Instr.sliceAt,Instr.slice,Instr.sliceBounds,run_underlying hu]
 ·simp[Instr.sliceAt,Instr.slice,Instr.sliceBounds,run_underlying hu,nO h2]
 ·simp[Instr.sliceAt,Instr.slice,Instr.sliceBounds,run_underlying hu,nO h1]
 ·simp[Instr.sliceAt,Instr.slice,Instr.sliceBounds,run_underlying hu,nO h1,nO h2]
theorem Vv {α β:Type}{f:α→β}{a:Array α}{x:β}(h:a.toList.map f=[x]):∃p,a=#[p]∧f p=x:=by
 rcases a with⟨l⟩
 match l,h with
 |[p],h=>exact⟨p,rfl,by simpa using h⟩
theorem Di {P:Program}{T:bH}(hT:aZ P T){ρ:Env}{n N:Nat}{t:TT}{a:Act}(ht:aS ρ n N t a){o:Oper}{v:AV}(h:XE T t o.op=some v)(w:World):
 (execOp a.eval o).run P w= .ok (.value (cv ρ v)) w∧v.ok n:=by
 obtain⟨dst,op,type,pos,after,guard⟩:=o;dsimp only at h;unfold XE at h;split at h
 ·rename_i s x ix;split at h
  ·rename_i i l j hi hx hj;split at h
   ·rename_i hk;obtain⟨c,hc,rfl⟩:=zi.1 h;obtain⟨k,hj'⟩:=bV hj;have hu:=(hT s i hi).string hk;refine⟨?_,trivial⟩
    have e1:(ag l)[j]? =some (UInt8.ofNat c):=by
     have hj2:j < l.length:=(zf.1 hc).1;have hcv:=(zf.1 hc).2;rw[ByteArray.getElem?_lt' (ag l) j (by rw[aC];exact hj2)]
     simp[ag,ByteArray.getElem_eq_getElem_data,hcv]
    simp only[execOp,ht.eval,hx,hj',cv];simp[Instr.index,asIntOf,run_underlying hu,e1,bO]
   ·cases h
  ·cases h
 ·rename_i s x lo hi;split at h
  ·rename_i i l hi' hx;split at h
   ·rename_i hk;split at h
    ·rename_i p q hp hq;split at h
     ·rename_i hc;simp only[Bool.and_eq_true] at hc;obtain rfl:=zq h;have hu:=(hT s i hi').string hk;have hrun:=Uu (w:=w) (S:=ag l) hu (Iy hp ρ) (by rw[aC];exact Iy hq ρ) (zk hc.1) (by rw[aC];exact zk hc.2)
      have e1:∀q:Option Operand,q.map a.eval=(q.map (ev t)).map (cv ρ):=fun q=>by cases q<;>simp[ht.eval]
      refine⟨?_,trivial⟩;simp only[execOp,e1,Option.map_none,ht.eval,hx,cv,Sem.run_bind,hrun,Result.andThen_ok,Sem.run_pure,nN]
     ·cases h
    ·cases h
   ·cases h
  ·cases h
 ·rename_i op s x y ty;split at h
  ·rename_i l m hx hy;split at h
   ·obtain rfl:=zq h;refine⟨?_,trivial⟩;simp only[execOp,ht.eval,hx,hy,cv,binOp,eqGuard,Op.stringOp,uP];rfl
   ·obtain rfl:=zq h;refine⟨?_,trivial⟩;simp only[execOp,ht.eval,hx,hy,cv,binOp,eqGuard,Op.stringOp,uP];rfl
   ·split at h
    ·rename_i hc;have hc:=zk hc;obtain rfl:=zq h;refine⟨?_,trivial⟩
     have hb:¬(((ag l).size+(ag m).size:Nat):Int) > IntKind.i64.max:=by
      rw[aC,aC];show ¬(_:Int) > 9223372036854775807;omega
     simp only[execOp,ht.eval,hx,hy,cv,binOp,eqGuard,Op.stringOp,if_neg hb,Ot];rfl
    ·cases h
   ·cases h
  ·rename_i k a' k' b' hx hy
   cases hk:ZA k k' with
   |false=>rw[hk] at h;cases h
   |true=>
   rw[hk] at h;obtain rfl:=Eb hk;obtain⟨h1,h2⟩:=Qv (P:=P) h ρ s w;refine⟨?_,h2 n⟩;have h1':(binOp op s (.int k (Int.ofNat a')) (.int k (Int.ofNat b'))).run P w= .ok (cv ρ v) w:=h1;simp only[execOp,ht.eval,hx,hy,cv]
   have hg:(eqGuard op s x y (.int k (Int.ofNat a')) (.int k (Int.ofNat b'))).run P w= .ok () w:=by
    unfold eqGuard
    cases op<;>rfl
   simp only[Sem.run_bind,hg,Result.andThen_ok,h1',Sem.run_pure]
  ·rename_i fs z k m hx hy
   cases hk:ZA .i64 k with
   |false=>rw[hk] at h;cases h
   |true=>
   rw[hk] at h;obtain rfl:=Eb hk;simp only[cond_true] at h;obtain⟨r,hr,rfl⟩:=zi.1 h
   have hok:kM fs z:=by
    have:=ht.fQ x;rw[hx] at this;exact this
   have h1':=Pp (P:=P) hr hok s w;refine⟨?_,trivial⟩;simp only[execOp,ht.eval,hx,hy,cv]
   have hg:(eqGuard op s x y (.int .i64 z) (.int .i64 m)).run P w= .ok () w:=by
    unfold eqGuard
    cases op<;>rfl
   simp only[Sem.run_bind,hg,Result.andThen_ok,h1',Sem.run_pure]
  ·cases h
 ·rename_i ty x;split at h
  ·rename_i b hx;obtain rfl:=zq h;refine⟨?_,trivial⟩;simp only[execOp,ht.eval,hx,cv,Op.unary,Sem.run_bind,Sem.run_pure,Result.andThen_ok]
  ·cases h
 ·rename_i c;obtain⟨callee,args,ats⟩:=c;dsimp only at h;split at h
  case h_2=>cases h
  case h_1=>
  split at h
  ·rename_i l s ha hs;split at h
   ·rename_i i hi;split at h
    ·rename_i hk;obtain rfl:=zq h;have hu:=(hT s i hi).string hk;obtain⟨p,rfl,hp⟩:=Vv ha;have hs':ats=#[s]:=by rw[← hs]
     subst hs';have hx:=ht.eval p;rw[hp] at hx;refine⟨?_,trivial⟩;simp[execOp,resolve,invoke,builtin,Builtin.len_,hx,cv,run_underlying hu,goInt,aC]
    ·cases h
   ·cases h
  ·cases h
 ·rename_i s d x;split at h
  ·rename_i j i k n hs hd hx;split at h
   ·rename_i k2 hk;obtain⟨ds,ZP,_⟩:=(hT s j hs).under;have hud:=(hT d i hd).int hk
    have hv:cv ρ v= .int k2 (k2.wrap n)∧∀m,v.ok m:=by
     split at h
     ·split at h
      ·rename_i u hu;obtain rfl:=zq h;exact qx hu ρ
      ·obtain rfl:=zq h;exact⟨rfl,fun m=>trivial⟩
     ·obtain rfl:=zq h;exact⟨rfl,fun m=>trivial⟩
    refine⟨?_,hv.2 _⟩;simp only[execOp,ht.eval,hx,cv];rw[hv.1];simp[convert,run_underlying ZP,run_underlying hud,Conv.intToInt]
   ·cases h
  ·cases h
 ·cases h
def oo:Nat→List AV→List AV
 |0,_=>[]
 |n+1,z=>z++oo n z
theorem qp (z:List AV):∀n,oo (n+1) z=oo n z++z
 |0=>by simp[oo]
 |n+1=>by
  show z++oo (n+1) z=_;rw[qp z n];have h:=qp z n;show z++(oo n z++z)=oo n z++z++z;rw[← yc,show z++oo n z=oo n z++z from h]
theorem Bu (z:List AV):∀n,(oo n z).length=n * z.length
 |0=>by simp[oo]
 |n+1=>by rw[qp,zL,Bu z n,Nat.succ_mul]
theorem Jo {k:Nat}{z:List AV}(h:oks k z):∀n,oks k (oo n z)
 |0=>trivial
 |n+1=>bC h (Jo h n)
theorem GL (ρ:Env)(z:List Value)(c sz:Nat)(hz:z.length=sz):aH ρ (oo c (z.map gX))=(madeCells z.toArray (c * sz)).toList:=by
 induction c with
 |zero=>simp[oo,aH,madeCells]
 |succ c ih=>
  rw[qp,sj,ih,kL];unfold madeCells;simp only[Array.toList_map,Array.toList_range];rw[Nat.succ_mul,List.range_add,yu]
  congr 1
  apply xR;intro j;simp only[List.map_map,List.getElem?_map];by_cases hj:j < sz
  ·rw[List.getElem?_range hj,zg zy];simp only[Option.map_some,Function.comp_apply,List.size_toArray,hz];have e:(c * sz+j) % sz=j:=by rw[vZ,Nat.mul_add_mod,Nat.mod_eq_of_lt hj]
   rw[e];simp[hz,hj]
  ·rw[yo zy,yo zu];rfl
theorem Ob (ρ:Env)(l:List AV)(n:Nat):aH ρ (l.take n)=(aH ρ l).take n:=by simp[bz,List.map_take]
def Bp (l:List Nat):List AV:=l.map fun c=>.int .u8 (.ofNat (bO c))
theorem Bo (ρ:Env)(l:List Nat):aH ρ (Bp l)=Go.Lib.strCells (ag l):=by
 simp[Bp,Go.Lib.strCells,bz,cv,ag,bO]
theorem LZ (n:Nat)(l:List Nat):oks n (Bp l):=(bQ _ _).2 fun v hv=>by
 obtain⟨c,_,rfl⟩:=zX.1 hv;trivial
def pV:List AV→Option (List Nat)
 |[]=>some []
 | .int .u8 (.ofNat c)::l=>(pV l).map (c:: ·)
 |_=>none
theorem pU (ρ:Env):∀(l:List AV) {m:List Nat},pV l=some m→aH ρ l=m.map fun (c:Nat)=>Value.int .u8 (c:Int)
 |[],m,h=>by simp only[pV,Option.some.injEq] at h;subst h;rfl
 |v::l,m,h=>by
  unfold pV at h;split at h
  ·rename_i e;cases e
  ·rename_i c l' e;obtain⟨rfl,rfl⟩:=yP e;obtain⟨m',h1,rfl⟩:=zi.1 h;rw[aH,pU ρ _ h1];rfl
  ·cases h
def aqe (op:Option Nat)(n m:Nat):Bool:=match op with|none=>Nat.beq m n|some _=>Nat.ble n m
def Cy (T:bH)(W:AW)(s u:Nat)(x:AV)(l:List Nat):Option (AV×AW):=
 match T.get s,T.get u with
 |some i,some iu=>match i.kd,iu.kd with
  | .slice e 1 1,.string=>match T.get e with
    |some ie=>match ie.zero with
     |[.int .u8 0]=>if Nat.beq ie.size 1 && !ie.row then
      match x with
      | .bT=>match l with
        |[]=>some (.bT,W)
        |_=>if Nat.ble l.length 1099511627776 then some (.slice W.nx 0 0 l.length none,W.push (.cells (Bp l) e (some 1))) else none
      | .slice b 0 0 n c=>match au b W.bl with
        |some (.cells vs e' op)=>
         if Nat.beq e' e && aqe op n vs.length && ownB op c n 1 && Nat.ble (n+l.length) 1099511627776 && Nat.blt 0 (n+l.length) then
          some (.slice W.nx 0 0 (n+l.length) none,⟨W.nx+1,(W.nx,.cells (vs.take n++Bp l) e (some 1))::uU b W.bl,addN b W.az,W.gl⟩)
         else none
        |_=>none
      |_=>none
      else none
     |_=>none
    |none=>none
  |_,_=>none
 |_,_=>none
theorem Oz {P:Program}{T:bH}(hT:aZ P T){w0:World}{ρ:Env}{W W':AW}{w:World}(hW:aJ w0 ρ W w){s u ty:Nat}{x v:AV}{l:List Nat}(h:Cy T W s u x l=some (v,W'))(hx:x.ok W.nx):
 ∃ρ' w',(Builtin.append_ #[s,u] ty #[cv ρ x,.string (ag l)]).run P w= .ok (cv ρ' v) w'∧Post w0 ρ W w ρ' W' w'∧v.ok W'.nx:=by
 unfold Cy at h;split at h
 case h_2=>cases h
 case h_1 i iu hi hiu=>
 split at h
 case h_2=>cases h
 case h_1 e hk hku=>
 split at h
 case h_2=>cases h
 case h_1 ie hie=>
 split at h
 case h_2=>cases h
 case h_1 hz=>
 split at h
 case isFalse=>cases h
 case isTrue hsz=>
 simp only[Bool.and_eq_true,Bool.not_eq_true'] at hsz;obtain⟨hsz,hrow⟩:=hsz;have hsz:=(beq_iff _ _).1 hsz;obtain⟨hu,hs,hby,hpos⟩:=(hT s i hi).slice hk;have ZP:=(hT u iu hiu).string hku;obtain⟨f,z,hf,hfs,hfz,hzc⟩:=(hT e ie hie).info;have rU:f.bytes=1:=by rw[hf] at hby;simpa using hby
 have hrow:ie.row=false:=hrow;obtain⟨f',z',hf',hz',hzz⟩:=(hT e ie hie).one hrow;rw[hf] at hf';obtain rfl:=zq hf'
 have hz0:f.zero=some (.int .u8 0):=by
  rw[hz',(yP (hz.symm.trans hzz)).1]
 split at h
 ·split at h
  ·obtain⟨rfl,rfl⟩:=zm (zq h);obtain⟨v',w',hrun,hown,hg,hnil⟩:=Go.Lib.run_append_own_string (P:=P) (w:=w) 0 s u ty e f hu ZP hf hz0 (by rw[hfs,hsz]) rU (.slice none 0 0) 0 [] (yx _ _ _ _) (ag []) (by simp[aC]) (by simp[aC]) (zF _)
   have hv':=hnil.2 ⟨rfl,rfl⟩;subst hv';refine⟨ρ,w',hrun,hW.quiet ((Gr.mF hg).mono fun i _ e=>by simp[Value.ownBlock] at e),trivial⟩
  ·rename_i hl;split at h
   case isFalse=>cases h
   case isTrue hb=>
   have hb:=zk hb
   have hpos':0 < l.length:=by
    cases l with
    |nil=>exact (hl rfl).elim
    |cons a b=>simp
   obtain⟨rfl,rfl⟩:=zm (zq h);obtain⟨v',w',hrun,hown,hg,_⟩:=Go.Lib.run_append_own_string (P:=P) (w:=w) w.heap.size s u ty e f hu ZP hf hz0 (by rw[hfs,hsz]) rU (.slice none 0 0) 0 [] (yx _ _ _ _) (ag l) (by rw[aC];simp only[maxLen];omega) (by rw[aC];omega) (zn _)
   rw[aC,yD] at hown;rcases hown.2 with⟨_,h0⟩|⟨g,cap,cur,rfl,hgw,q2,q3,q4,q5,q6⟩
   ·omega
   have q1:g < w'.heap.size:=(zT.1 q2).1;have hgr:Gr w w' (fun _=>False):=(Gr.mF hg).mono fun i _ e=>by simp[Value.ownBlock] at e
   refine⟨_,w',?_,hW.new (c:=cap) hgr hgw q1 (LZ _ l) ?_,zS _⟩
   ·simp only[cv,Env.aM,Env.bX];rw[hrun,ve]
   ·refine⟨l.length,cur,?_,?_,?_,?_,by simp[Bp],?_⟩
    ·rw[Env.aM];exact q2
    ·rw[Env.bX];exact q3
    ·rw[Env.bX];exact q4
    ·rw[Env.bX];exact q5
    ·rw[Bo]
     simpa using q6
 ·rename_i b n c';split at h
  case h_2=>cases h
  case h_1 vs e' op hb=>
  split at h
  case isFalse=>cases h
  case isTrue hcc=>
  simp only[Bool.and_eq_true] at hcc;obtain⟨⟨⟨⟨he,hvl⟩,hop⟩,hbd⟩,hnz⟩:=hcc;obtain rfl:=(beq_iff _ _).1 he
  have Hz:(vs.take n).length=n:=by
   rw[zJ]
   cases op with
   |none=>have:=(beq_iff _ _).1 hvl;omega
   |some _=>have:=zk hvl;omega
  have hvt:op=none→vs.take n=vs:=fun e=>by
   subst e;have:=(beq_iff _ _).1 hvl;exact yn zy
  have hbd:=zk hbd;have hnz:=aK hnz;have hrep:=hW.rep b _ hb
  have hown:∃cap cur,cv ρ (.slice b 0 0 n c')= .slice (some ⟨ρ.blk b,0,none⟩) n cap∧w.heap[ρ.blk b]? =some (.cells cur e' (0,0))∧n≤cap∧cap≤maxLen∧cur.size=cap * 1∧cur.toList.take (n * 1)=aH ρ (vs.take n):=by
   cases op with
   |none=>
    cases c' with
    |none=>cases hop
    |some c''=>
     have hop:c''=n:=(beq_iff _ _).1 hop;subst hop;rw[hvt rfl] at Hz ⊢;exact⟨c'',_,rfl,hrep,zn _,by simp only[maxLen];omega,by simp[ay,Hz],yn (by simp[ay,Hz])⟩
   |some RJ=>
    cases c' with
    |some _=>cases hop
    |none=>
     have hop:RJ=1:=(beq_iff _ _).1 hop;subst hop;obtain⟨n',cur,q1,q2,q3,q4,q5,q6⟩:=hrep
     have hnn:n≤n':=by
      rw[zJ] at Hz;omega
     refine⟨ρ.cap b,cur,by simp[cv],q1,zy,q3,q4,?_⟩
     have e1:=yV (List.take n) q6;rw[List.take_take] at e1;rw[Ob,← e1]
     congr 1
     omega
  obtain⟨cap0,anO,hcv,hheap,hn1,hn2,hn3,hn4⟩:=hown;have hown:w.ownsRow 0 e' 1 (.slice (some ⟨ρ.blk b,0,none⟩) n cap0) n (aH ρ (vs.take n)):=⟨by rw[ay,Hz,vP],.inr ⟨_,cap0,anO,rfl,zF _,hheap,hn1,hn2,hn3,hn4⟩⟩
  obtain⟨rfl,rfl⟩:=zm (zq h);obtain⟨v',w',hrun,hown',hg,_⟩:=Go.Lib.run_append_own_string (P:=P) (w:=w) 0 s u ty e' f hu ZP hf hz0 (by rw[hfs,hsz]) rU _ n (aH ρ (vs.take n)) hown (ag l) (by rw[aC];simp only[maxLen];omega) (by rw[aC];omega) (zF _)
  rw[aC] at hown';rcases hown'.2 with⟨_,h0⟩|⟨g,cap,cur,rfl,_,q2,q3,q4,q5,q6⟩
  ·omega
  have q1:g < w'.heap.size:=(zT.1 q2).1
  have hgb:g=ρ.blk b∨w.heap.size≤g:=by
   by_cases hroom:n+(ag l).size≤cap0
   ·have hr:=Go.Lib.run_append_room_string (P:=P) w s u ty e' f hu ZP hf (by rw[hfs,hsz]) (ρ.blk b) n cap0 anO hheap (ag l) hroom zy
    rw[hrun] at hr;injection hr with h1 h2
    injection h1 with h3 h4 h5
    injection h3 with h6
    injection h6 with h7
    exact .inl h7
   ·have holds:∀j u,(aH ρ (vs.take n))[j]? =some u→w.cell? ((⟨ρ.blk b,0,none⟩:Addr).add j)=some u:=hown.cells (g:=ρ.blk b) rfl;have hr:=Go.Lib.run_append_grow_string (P:=P) w s u ty e' f (.int .u8 0) hu ZP hf hz0 ⟨ρ.blk b,0,none⟩ n cap0 (aH ρ (vs.take n)) (by rw[hfs,hsz,ay,Hz,vP]) holds (ag l) zy (by rw[aC];omega) (by rw[rU];rw[aC] at hroom ⊢;exact growslice_fits zy zy)
    rw[hrun] at hr;injection hr with h1 h2
    injection h1 with h3 h4 h5
    injection h3 with h6
    injection h6 with h7
    exact .inr zy
  have hgr:Gr w w' (fun i=>ρ.blk b=i):=(Gr.mF hg).mono fun i _ e=>zq e
  have Ca:oks W.nx (vs.take n++Bp l):=bC (iP (hW.ok b _ hb).2.1 _) (LZ _ _);refine⟨_,w',?_,hW.turn (c:=cap) hb hgr hgb q1 Ca ?_,zS _⟩
  ·rw[hcv,hrun];simp only[cv,Env.aM,Env.bX,Nat.sub_zero]
  ·refine⟨n+l.length,cur,?_,?_,?_,?_,by rw[zL,Hz];simp[Bp],?_⟩
   ·rw[Env.aM];exact q2
   ·rw[Env.bX];exact q3
   ·rw[Env.bX];exact q4
   ·rw[Env.bX];exact q5
   ·rw[cz (Env.gu ρ W.nx g cap) _ Ca,sj,Bo];exact q6
 ·cases h
def Sn (T:bH)(W:AW)(s l c:Nat):Option (AV×AW):=
 match T.get s with
 |some i=>match i.kd with
  | .slice e sz uZ=>match T.get e with
    |some ie=>
     if Nat.ble l c && Nat.beq ie.size sz && Nat.beq ie.zero.length sz && Nat.ble (c * sz) 65536 && Nat.ble (c * (uZ+1)) 1048576 then
      some (.slice W.nx 0 0 l (some c),W.push (.cells (oo c (ie.zero.map gX)) e none)) else none
    |none=>none
  |_=>none
 |none=>none
theorem Vj {P:Program}{T:bH}(hT:aZ P T){w0:World}{ρ:Env}{W W':AW}{w:World}(hW:aJ w0 ρ W w){s l c:Nat}{kl kc:IntKind}{v:AV}(h:Sn T W s l c=some (v,W')):
 ∃ρ' w',(Instr.makeSlice s (.int kl (l:Int)) (.int kc (c:Int))).run P w= .ok (cv ρ' v) w'∧Post w0 ρ W w ρ' W' w'∧v.ok W'.nx:=by
 unfold Sn at h;split at h
 case h_2=>cases h
 case h_1 i hi=>
 split at h
 case h_2=>cases h
 case h_1 e sz uZ hk=>
 split at h
 case h_2=>cases h
 case h_1 ie hie=>
 split at h
 case isFalse=>cases h
 case isTrue hc=>
 simp only[Bool.and_eq_true] at hc;obtain⟨⟨⟨⟨h1,h2⟩,h3⟩,h4⟩,h5⟩:=hc;have h1:=zk h1;have h2:=(beq_iff _ _).1 h2;have h3:=(beq_iff _ _).1 h3;have h4:=zk h4;have h5:=zk h5;rw[Nat.mul_succ] at h5;obtain⟨rfl,rfl⟩:=zm (zq h);obtain⟨hu,hs,hby,hpos⟩:=(hT s i hi).slice hk;obtain⟨f,z,hf,hfs,hfz,hzc⟩:=(hT e ie hie).info;have rU:f.bytes=uZ:=by rw[hf] at hby;simpa using hby
 have hrun:=run_makeSlice (P:=P) w s e f z hu hf hfz kl kc (l:Int) (c:Int) zy zy (by rw[hfs,h2];simp;omega) (by
  rw[rU];have:((c * uZ:Nat):Int)≤1048576:=zy;rw[Int.natCast_mul,Int.mul_comm] at this;omega) zy
 have hzl:z.cells=ie.zero.toArray:=by rw[← hzc]
 have hcells:(aH ρ (oo c (ie.zero.map gX))).toArray=madeCells z.cells ((c:Int).toNat * f.size):=by
  rw[GL ρ ie.zero c sz h3,hfs,h2,hzl];rfl
 have hp:=hW.row (Jo (iq W.nx ie.zero) c) e;rw[hcells] at hp;refine⟨_,_,?_,hp,zS _⟩;rw[hrun];simp only[cv,Env.aM,Int.toNat_natCast]
def Tw (T:bH)(W:AW)(s u:Nat)(x y:AV):Option (AV×AW):=
 match T.get s,T.get u with
 |some i,some iu=>match i.kd,iu.kd with
  | .slice _e 1 _,.slice _ 1 _=>match x with
    | .slice b o _ n _=>match au b W.bl,lg W.bl 1 y with
      |some (.cells vs e' op),some (m,news)=>
       let k:=if Nat.ble m n then m else n
       let cs:=news.take k
       if cs.all o7 && Nat.ble (o+k) vs.length && Nat.blt 0 k then
        some (.int .i64 (.ofNat k),⟨W.nx,ib b (.cells (vs.take o++cs++vs.drop (o+k)) e' op) W.bl,addN b W.az,W.gl⟩)
       else if Nat.beq k 0 then some (.int .i64 (.ofNat 0),W) else none
      |none,some (0,_)=>some (.int .i64 (.ofNat 0),W)
      |_,_=>none
    | .bT=>match lg W.bl 1 y with
      |some _=>some (.int .i64 (.ofNat 0),W)
      |none=>none
    | .FI _=>match lg W.bl 1 y with
      |some _=>some (.int .i64 (.ofNat 0),W)
      |none=>none
    |_=>none
  |_,_=>none
 |_,_=>none
theorem mg {ρ:Env}{W:AW}{w0 w:World}(hW:aJ w0 ρ W w){y:AV}{m:Nat}{news:List AV}(h:lg W.bl 1 y=some (m,news)):
 ∃A c,cv ρ y= .slice A m c∧news.length=m∧Rd w (fun _=>True) A (aH ρ news)∧oks W.nx news:=by
 obtain⟨A,c,h1,h2,h3,h4⟩:=jr (fun b k hb=>⟨(hW.ok b k hb).2.1,hW.rep b k hb⟩) h
 exact⟨A,c,h1,zy,h3,h4⟩
theorem Wh {P:Program}{T:bH}(hT:aZ P T){w0:World}{ρ:Env}{W W':AW}{w:World}(hW:aJ w0 ρ W w){s u ty:Nat}{x y v:AV}(h:Tw T W s u x y=some (v,W')):
 ∃w',(Builtin.copy_ #[s,u] ty #[cv ρ x,cv ρ y]).run P w= .ok (cv ρ v) w'∧Post w0 ρ W w ρ W' w'∧v.ok W'.nx:=by
 unfold Tw at h;split at h
 case h_2=>cases h
 case h_1 i iu hi hiu=>
 split at h
 case h_2=>cases h
 case h_1 e uZ e2 by2 hk hku=>
 obtain⟨hu,hs,_,_⟩:=(hT s i hi).slice hk;have hs1:(P.info? e).map (·.size)=some 1:=by simpa [kZ] using hs
 split at h
 ·rename_i b o k0 n c;have hx:∃cp,cv ρ (.slice b o k0 n c)= .slice (some ⟨ρ.blk b,o,none⟩) n cp:=by cases c<;>exact⟨_,rfl⟩
  obtain⟨cp,hx⟩:=hx;split at h
  ·rename_i vs e' op m news hb hr;obtain⟨A,cy,hy,hlen,hrd,hno⟩:=mg hW hr;dsimp only at h;obtain⟨k,hk0⟩:∃k,(if Nat.ble m n then m else n)=k:=⟨_,rfl⟩
   rw[hk0] at h
   have hmin:k=Nat.min m n:=by
    rw[← hk0];by_cases hmn:m≤n
    ·rw[zW (yF hmn)];exact (wJ hmn).symm
    ·rw[za (fun e=>hmn (zk e))];exact (Nat.min_eq_right zy).symm
   split at h
   ·rename_i hc;simp only[Bool.and_eq_true] at hc;obtain⟨⟨hone,hfit⟩,hpos⟩:=hc;have hfit:=zk hfit;have hpos:=aK hpos;obtain⟨rfl,rfl⟩:=zm (zq h);obtain⟨p1,p2,p3,p4⟩:=hW.ok _ _ hb;obtain⟨cur,ou,hcell⟩:=oU (hW.rep _ _ hb);have hkm:k≤m:=by rw[hmin];exact Nat.min_le_left _ _
    have hcl:(news.take k).length=k:=by rw[zJ];omega
    have hnl:news≠[]:=fun e=>by rw[e] at hlen;simp at hlen;omega
    obtain⟨ad,rfl,_,hsrc⟩:=hrd (by cases news with|nil=>exact (hnl rfl).elim|cons a l=>simp[aH])
    have hvl:vs.length≤cur.size:=by
     rcases zP cur.size vs.length with hlt|hge
     ·have:=hcell cur.size _ (zg hlt);simp at this
     ·exact hge
    have hrun:=run_copy_row (P:=P) w s u ty e (ρ.blk b) o n cp ad m cy cur e' (aH ρ (news.take k)) hu hs1 ou (by rw[ay,hcl,hmin]) (fun j v hj=>by
     rw[Ob] at hj;refine hsrc j v ?_;rw[yj] at hj;split at hj
     ·exact hj
     ·cases hj) (by rw[ay,hcl];omega) (uR hone ρ)
    rw[ay,hcl] at hrun;have hh:=setRow_heap w (ρ.blk b) cur (cur.toList.take o++aH ρ (news.take k)++cur.toList.drop (o+k)).toArray e' (0,0) ou;refine⟨w.setRow (ρ.blk b) (cur.toList.take o++aH ρ (news.take k)++cur.toList.drop (o+k)).toArray,by rw[hx,hy];exact hrun,hW.write hb ⟨rfl,rfl,rfl,zw,fun j _ hj=>?_⟩ (bC (bC (iP p2 _) (iP hno _)) (ku p2 _)) ?_,trivial⟩
    ·simp only[World.setRow];rw[wQ,za hj]
    ·cases op with
     |none=>
      have hc:w.heap[ρ.blk b]? =some (.cells (aH ρ vs).toArray e' (0,0)):=hW.rep _ _ hb;rw[ou] at hc;have hcv:cur=(aH ρ vs).toArray:=by injection (zq hc)
      show _=_;rw[hh];subst hcv;simp[bz,List.map_append,List.map_take,List.map_drop]
     |some sz=>
      obtain⟨n',cur',q1,q2,q3,q4,q5,q6⟩:=hW.rep _ _ hb;rw[ou] at q1;have hcc:cur=cur':=by injection (zq q1)
      subst hcc;refine⟨n',_,hh,q2,q3,?_,?_,?_⟩
      ·simp[ay];omega
      ·simp;omega
      ·have e1:=Db cur.toList (aH ρ (news.take k)) o (n' * sz) (by rw[ay,hcl];omega) (by rw[yZ,q4];exact wM _ q2)
       rw[ay,hcl] at e1;simp only;rw[e1,q6];simp[bz,List.map_append,List.map_take,List.map_drop]
   ·split at h
    ·rename_i hk1;have hk1:=(beq_iff _ _).1 hk1;obtain⟨rfl,rfl⟩:=zm (zq h);have hrun:=run_copy_none (P:=P) w s u ty e (some ⟨ρ.blk b,o,none⟩) A n cp m cy hu hs1 (by rw[← hmin,hk1])
     exact⟨w,by rw[hx,hy];exact hrun,Post.refl hW,trivial⟩
    ·cases h
  ·rename_i m' hb hr;obtain⟨A,cy,hy,hlen,hrd,hno⟩:=mg hW hr;obtain⟨rfl,rfl⟩:=zm (zq h);have hrun:=run_copy_none (P:=P) w s u ty e (some ⟨ρ.blk b,o,none⟩) A n cp 0 cy hu hs1 (Nat.zero_min _);exact⟨w,by rw[hx,hy];exact hrun,Post.refl hW,trivial⟩
  ·cases h
 ·split at h
  ·rename_i r hr;obtain⟨m,news⟩:=r;obtain⟨A,cy,hy,hlen,hrd,hno⟩:=mg hW hr;obtain⟨rfl,rfl⟩:=zm (zq h);have hrun:=run_copy_none (P:=P) w s u ty e none A 0 0 m cy hu hs1 (Nat.min_zero _);exact⟨w,by rw[hy];exact hrun,Post.refl hW,trivial⟩
  ·cases h
 ·rename_i j;split at h
  ·rename_i r hr;obtain⟨m,news⟩:=r;obtain⟨A,cy,hy,hlen,hrd,hno⟩:=mg hW hr;obtain⟨rfl,rfl⟩:=zm (zq h);have hrun:=run_copy_none (P:=P) w s u ty e (some (ρ.es j).1) A 0 (ρ.es j).2 m cy hu hs1 (Nat.min_zero _);exact⟨w,by rw[hy];exact hrun,Post.refl hW,trivial⟩
  ·cases h
 ·cases h
def Kz (T:bH)(W:AW)(s:Nat):AV→Option (AV×AW)
 | .slice b o _ n _=>match T.get s with
   |some i=>match i.kd with
    | .slice e sz _=>match T.get e,au b W.bl with
      |some ie,some (.cells vs e' op)=>
       let cs:=oo n (ie.zero.map gX)
       if Nat.blt 0 n && Nat.beq ie.zero.length sz && cs.all o7 && Nat.ble (o+n * sz) vs.length then
        some (.tuple [],⟨W.nx,ib b (.cells (vs.take o++cs++vs.drop (o+n * sz)) e' op) W.bl,addN b W.az,W.gl⟩) else none
      |_,_=>none
    |_=>none
   |none=>none
 |_=>none
theorem QT {P:Program}{T:bH}(hT:aZ P T){w0:World}{ρ:Env}{W W':AW}{w:World}(hW:aJ w0 ρ W w){s ty:Nat}{x v:AV}(h:Kz T W s x=some (v,W')):
 ∃w',(Builtin.clear_ #[s] ty #[cv ρ x]).run P w= .ok (cv ρ v) w'∧Post w0 ρ W w ρ W' w'∧v.ok W'.nx:=by
 unfold Kz at h;split at h
 case h_2=>cases h
 case h_1 b o k0 n c=>
 split at h
 case h_2=>cases h
 case h_1 i hi=>
 split at h
 case h_2=>cases h
 case h_1 e sz uZ hk=>
 obtain⟨hu,hs,_,_⟩:=(hT s i hi).slice hk;split at h
 case h_2=>cases h
 case h_1 ie vs e' op hie hb=>
 dsimp only at h;split at h
 case isFalse=>cases h
 case isTrue hc=>
 simp only[Bool.and_eq_true] at hc;obtain⟨⟨⟨hpos,hzl⟩,hone⟩,hfit⟩:=hc;have hpos:=aK hpos;have hzl:=(beq_iff _ _).1 hzl;have hfit:=zk hfit;obtain⟨rfl,rfl⟩:=zm (zq h);obtain⟨f,z,hf,hfs,hfz,hzc⟩:=(hT e ie hie).info;obtain⟨p1,p2,p3,p4⟩:=hW.ok _ _ hb;obtain⟨cur,ou,hcell⟩:=oU (hW.rep _ _ hb);have hx:∃cp,cv ρ (.slice b o k0 n c)= .slice (some ⟨ρ.blk b,o,none⟩) n cp:=by cases c<;>exact⟨_,rfl⟩
 obtain⟨cp,hx⟩:=hx;obtain⟨cs,hcs⟩:∃cs,oo n (ie.zero.map gX)=cs:=⟨_,rfl⟩;have hcl:cs.length=n * sz:=by rw[← hcs,Bu,zI,hzl]
 have hno:oks W.nx cs:=by rw[← hcs];exact Jo (iq W.nx ie.zero) n
 rw[hcs] at hone ⊢
 have hvl:vs.length≤cur.size:=by
  rcases zP cur.size vs.length with hlt|hge
  ·have:=hcell cur.size _ (zg hlt);simp at this
  ·exact hge
 have hzz:(Builtin.zeroCells z.cells n).toList=aH ρ cs:=by
  rw[← hcs,GL ρ ie.zero n sz hzl];have e1:z.cells=ie.zero.toArray:=by rw[← hzc]
  rw[e1];unfold Builtin.zeroCells madeCells;rw[show ie.zero.toArray.size=sz from hzl]
 have hst:=run_storeCells_at P (ρ.blk b) o e' (aH ρ cs) 0 cur w ou (by rw[ay,hcl];simp;omega) (uR hone ρ)
 rw[Nat.add_zero,ay,hcl] at hst
 have hzv:(zeroValue e).run P w= .ok z w:=by
  simp only[zeroValue,typeInfo,Sem.run_bind,run_program,hf,Result.andThen_ok,Sem.run_pure,hfz]
 have hh:=setRow_heap w (ρ.blk b) cur (cur.toList.take o++aH ρ cs++cur.toList.drop (o+n * sz)).toArray e' (0,0) ou;refine⟨w.setRow (ρ.blk b) (cur.toList.take o++aH ρ cs++cur.toList.drop (o+n * sz)).toArray,?_,hW.write hb ⟨rfl,rfl,rfl,zw,fun j _ hj=>?_⟩ (bC (bC (iP p2 _) hno) (ku p2 _)) ?_,trivial⟩
 ·rw[hx];have hn:n≠0:=zy;obtain⟨m,rfl⟩:∃m,n=m+1:=⟨n - 1,zy⟩;simp[Builtin.clear_,run_underlying hu,hzv,hzz,hst,cv,aH]
 ·simp only[World.setRow];rw[wQ,za hj]
 ·cases op with
  |none=>
   have hc:w.heap[ρ.blk b]? =some (.cells (aH ρ vs).toArray e' (0,0)):=hW.rep _ _ hb;rw[ou] at hc;have hcv:cur=(aH ρ vs).toArray:=by injection (zq hc)
   show _=_;rw[hh];subst hcv;simp[bz,List.map_append,List.map_take,List.map_drop]
  |some sz2=>
   obtain⟨n',cur',q1,q2,q3,q4,q5,q6⟩:=hW.rep _ _ hb;rw[ou] at q1;have hcc:cur=cur':=by injection (zq q1)
   subst hcc;refine⟨n',_,hh,q2,q3,?_,?_,?_⟩
   ·simp[ay];omega
   ·simp;omega
   ·have e1:=Db cur.toList (aH ρ cs) o (n' * sz2) (by rw[ay,hcl];omega) (by rw[yZ,q4];exact wM _ q2)
    rw[ay,hcl] at e1;simp only;rw[e1,q6];simp[bz,List.map_append,List.map_take,List.map_drop]
end Ex
namespace Ex
open Go.RowKit Go.MapKept
theorem J7 (w:World)(r:Nat)(o:Obj):Gr w (w.putObj r o) (fun i=>r=i):=⟨rfl,rfl,rfl,zw,fun i _ hi=>World.putObj_heap_other (xq hi)⟩
def mH:AV→AV→Option Bool
 | .str l,.str m=>some (NW l m)
 | .int k (.ofNat a),.int k' (.ofNat b)=>if k=k' then some (Nat.beq a b) else none
 |_,_=>none
def keyOf:Kd→AV→Bool
 | .string,.str _=>true
 | .int k,.int k' (.ofNat _)=>decide (k=k')
 |_,_=>false
def uB (k:AV):List (AV×AV×Nat)→Nat→Option (Option (Nat×AV))
 |[],_=>some none
 |x::l,i=>match mH k x.1 with
  |some true=>some (some (i,x.2.1))
  |some false=>uB k l (i+1)
  |none=>none
theorem Nn {a b:AV}(h:mH a b=some true)(ρ:Env):cv ρ a=cv ρ b:=by
 unfold mH at h;split at h
 ·rename_i l m;have:NW l m=true:=zq h;rw[uF] at this;simp only[cv,ag,this]
 ·split at h
  ·rename_i hk;subst hk;have:=(beq_iff _ _).1 (zq h);subst this;rfl
  ·cases h
 ·cases h
theorem abg (l m:List Nat):(ag l == ag m)=NW l m:=by
 rw[yX,uF,bytes_beq];constructor
 ·intro h;have:=yV (fun b:ByteArray=>b.data.toList) h
  simpa [ag] using this
 ·intro h;simp only[ag,h]
theorem Ht {d:TypeDesc}{k:Kd}{P:Program}(hd:Hu P d k=true){a b:AV}(ha:keyOf k a=true){r:Bool}(h:mH a b=some r)(ρ:Env):Instr.sameNow d (cv ρ a) (cv ρ b)=some r:=by
 unfold mH at h;split at h
 ·rename_i l m
  cases k<;>simp only[keyOf,Bool.false_eq_true] at ha
  cases d<;>simp only[Hu,Bool.false_eq_true] at hd;obtain rfl:=zq h;simp only[cv,Instr.sameNow,abg]
 ·rename_i k1 a' k2 b'
  cases k<;>simp only[keyOf,Bool.false_eq_true] at ha
  cases d<;>simp only[Hu,Bool.false_eq_true] at hd;split at h
  ·rename_i hk;subst hk;obtain rfl:=zq h;simp only[cv,Instr.sameNow,if_true]
   congr 1
   rw[yX,beq_iff];simp only[beq_iff_eq];exact⟨fun e=>by exact Int.ofNat.inj e,fun e=>by rw[e]⟩
  ·cases h
 ·cases h
theorem mO {d:TypeDesc}{k:Kd}{P:Program}(hd:Hu P d k=true){a:AV}(ha:keyOf k a=true)(ρ:Env):∀(l:List (AV×AV×Nat)) (i:Nat) {r:Option (Nat×AV)},uB a l i=some r→Instr.findNow d (cv ρ a) (l.map (aI ρ)) i=some (r.map fun x=>(x.1,cv ρ x.2))
 |[],i,r,h=>by
  simp only[uB,Option.some.injEq] at h;subst h;rfl
 |x::l,i,r,h=>by
  simp only[uB] at h;rw[zO];unfold Instr.findNow;split at h
  ·rename_i he;rw[show Instr.sameNow d (cv ρ a) (aI ρ x).key=some true from Ht hd ha he ρ]
   obtain rfl:=zq h;rfl
  ·rename_i he;rw[show Instr.sameNow d (cv ρ a) (aI ρ x).key=some false from Ht hd ha he ρ]
   exact mO hd ha ρ l (i+1) h
  ·cases h
theorem EI {a:AV}:∀(l:List (AV×AV×Nat)) (i:Nat) {j:Nat} {v:AV},uB a l i=some (some (j,v))→∃x,i≤j∧l[j - i]? =some x∧mH a x.1=some true∧x.2.1=v
 |[],i,j,v,h=>by simp[uB] at h
 |x::l,i,j,v,h=>by
  simp only[uB] at h;split at h
  ·rename_i he;obtain⟨rfl,rfl⟩:=zm (zq (zq h));exact⟨x,zn _,zw,he,rfl⟩
  ·obtain⟨y,h1,h2,h3,h4⟩:=EI l (i+1) h;exact⟨y,zy,by rw[show j - i=(j - (i+1))+1 by omega,vk];exact h2,h3,h4⟩
  ·cases h
theorem pq {d:TypeDesc}{k:Kd}{P:Program}(hd:Hu P d k=true){a:AV}(ha:keyOf k a=true)(ρ:Env):IsKey d (cv ρ a):=by
 cases k<;>cases a<;>simp only[keyOf,Bool.false_eq_true] at ha
 ·cases d<;>simp only[Hu,Bool.false_eq_true] at hd;trivial
 ·rename_i k1 k2 n
  cases n<;>simp only[Bool.false_eq_true] at ha
  cases d<;>simp only[Hu,Bool.false_eq_true] at hd;have h1:=eq_of_beq hd;have h2:=xu ha;exact h2.symm.trans h1.symm
def qB (T:bH)(W:AW)(s:Nat)(m k v:AV):Option AW:=
 match T.get s,m with
 |some i,.map b=>match i.kd,au b W.bl with
  | .map kt _,some (.map es clock)=>match T.get kt with
    |some ik=>cond (keyOf ik.kd k) (match uB k es 0 with
     |some (some (j,_))=>match es[j]? with
      |some x=>some ⟨W.nx,ib b (.map (es.set j (x.1,v,x.2.2)) clock) W.bl,addN b W.az,W.gl⟩
      |none=>none
     |some none=>some ⟨W.nx,ib b (.map (es++[(k,v,clock)]) (clock+1)) W.bl,addN b W.az,W.gl⟩
     |none=>none) none
    |none=>none
  |_,_=>none
 |_,_=>none
theorem Jg {k:Kd}{a:AV}(ha:keyOf k a=true)(ρ:Env):Instr.sameBits 10000 (cv ρ a) (cv ρ a)=true:=by
 cases k<;>cases a<;>simp only[keyOf,Bool.false_eq_true] at ha
 ·simp only[cv,Instr.sameBits];rw[bytes_beq]
 ·simp[cv,Instr.sameBits]
theorem Vi {α:Type}{l:List α}{j:Nat}{x:α}(h:l[j]? =some x)(f:α→α):l.toArray.modify j f=(l.set j (f x)).toArray:=by
 apply yE;rw[Array.toList_modify];apply xR;intro i;rw[List.getElem?_modify,List.getElem?_set];by_cases hij:j=i
 ·subst hij;have hlt:=(zf.1 h).1;have he:=(zf.1 h).2;simp[hlt,he]
 ·simp[hij]
theorem Bw {P:Program}{T:bH}(hT:aZ P T){w0:World}{ρ:Env}{W W':AW}{w:World}(hW:aJ w0 ρ W w){s:Nat}{m k v:AV}(h:qB T W s m k v=some W')(hk:k.ok W.nx)(hv:v.ok W.nx):
 ∃w',(Instr.mapUpdate s (cv ρ m) (cv ρ k) (cv ρ v)).run P w= .ok () w'∧Post w0 ρ W w ρ W' w':=by
 unfold qB at h;split at h
 case h_2=>cases h
 case h_1 i b hi=>
 split at h
 case h_2=>cases h
 case h_1 kt et es clock hkd hb=>
 split at h
 case h_2=>cases h
 case h_1 ik hik=>
 cases hko:keyOf ik.kd k with
 |false=>rw[hko] at h;cases h
 |true=>
 rw[hko] at h;simp only[cond_true] at h;have hu:=(hT s i hi).map hkd;obtain⟨d,hud,_,hdk⟩:=(hT kt ik hik).under;have hheap:w.heap[ρ.blk b]? =some (.map (es.map (aI ρ)).toArray clock):=hW.rep b _ hb;obtain⟨p1,p2,p3,p4⟩:=hW.ok b _ hb;have hck:∀e,(Instr.checkKey e 10000 kt (cv ρ k)).run P w= .ok () w:=fun e=>run_checkKey hud (pq hdk hko ρ) e 9999
 split at h
 ·rename_i j u hf;obtain⟨x,_,hx,hke,hxv⟩:=EI es 0 hf;rw[ve] at hx;rw[hx] at h;obtain rfl:=zq h;have Ei:=run_findKey (w:=w) hud (mO hdk hko ρ es 0 hf);have hx':(es.map (aI ρ))[j]? =some (aI ρ x):=by rw[yh,hx];rfl
  have hkk:(aI ρ x).key=cv ρ k:=(Nn hke ρ).symm
  have hgd:((((es.map (aI ρ)).toArray[j]?).map (·.key)).getD (cv ρ k))=cv ρ k:=by
   rw[vT,hx',yN,Option.getD_some,hkk]
  have hmod:=Vi hx' (fun e=>{ e with key:=cv ρ k,val:=cv ρ v})
  have hent:({ aI ρ x with key:=cv ρ k,val:=cv ρ v}:MapEntry)=aI ρ (x.1,v,x.2.2):=by
   rw[← hkk];rfl
  rw[hent] at hmod;have hset:((es.map (aI ρ)).set j (aI ρ (x.1,v,x.2.2))).toArray=((es.set j (x.1,v,x.2.2)).map (aI ρ)).toArray:=by rw[List.map_set]
  refine⟨w.putObj (ρ.blk b) (.map ((es.set j (x.1,v,x.2.2)).map (aI ρ)).toArray clock),?_,hW.write hb (J7 w _ _) (fun y hy=>?_) (World.putObj_heap_same p4)⟩
  ·simp only[Instr.mapUpdate,cv,Sem.run_bind,run_underlying hu,Result.andThen_ok,Go.MapKept.run_getObj_map hheap,hck,Ei,Option.map_some,hgd,Instr.keyThatStays,Jg hko ρ,if_true,Sem.run_pure,hmod,hset];rw[wC _ hheap];rfl
  ·rcases List.mem_or_eq_of_mem_set hy with hy|rfl
   ·exact p2 y hy
   ·exact⟨(p2 x (zD hx)).1,hv⟩
 ·rename_i hf;obtain rfl:=zq h;have Ei:=run_findKey (w:=w) hud (mO hdk hko ρ es 0 hf)
  have hpush:(es.map (aI ρ)).toArray.push { key:=cv ρ k,val:=cv ρ v,born:=clock}=((es++[(k,v,clock)]).map (aI ρ)).toArray:=by
   apply yE;simp[aI]
  refine⟨w.putObj (ρ.blk b) (.map ((es++[(k,v,clock)]).map (aI ρ)).toArray (clock+1)),?_,hW.write hb (J7 w _ _) (fun y hy=>?_) (World.putObj_heap_same p4)⟩
  ·simp only[Instr.mapUpdate,cv,Sem.run_bind,run_underlying hu,Result.andThen_ok,Go.MapKept.run_getObj_map hheap,hck,Ei,Option.map_none,hpush];rw[wC _ hheap];rfl
  ·rcases zA.1 hy with hy|hy
   ·exact p2 y hy
   ·obtain rfl:y=(k,v,clock):=by simpa using hy
    exact⟨hk,hv⟩
 ·cases h
def Zh (T:bH)(W:AW)(s:Nat)(m k:AV)(ok:Bool):Option AV:=
 match T.get s with
 |some i=>match i.kd with
  | .map kt et=>match T.get kt,T.get et,(match m with | .map b=>(match au b W.bl with|some (.map es _)=>some es|_=>none) | .raw (.map none)=>some []|_=>none) with
    |some ik,some ie,some es=>cond (keyOf ik.kd k) (match uB k es 0 with
     |some (some (_,v))=>some (cond ok (.tuple [v,.bool true]) v)
     |some none=>(Rm ie).map fun z=>cond ok (.tuple [z,.bool false]) z
     |none=>none) none
    |_,_,_=>none
  |_=>none
 |none=>none
theorem Vp {P:Program}{T:bH}(hT:aZ P T){w0:World}{ρ:Env}{W:AW}{w:World}(hW:aJ w0 ρ W w){s:Nat}{m k v:AV}{ok:Bool}(h:Zh T W s m k ok=some v):
 (Instr.lookup s (cv ρ m) (cv ρ k) ok).run P w= .ok (cv ρ v) w∧v.ok W.nx:=by
 unfold Zh at h;split at h
 case h_2=>cases h
 case h_1 i hi=>
 split at h
 case h_2=>cases h
 case h_1 kt et hkd=>
 split at h
 case h_2=>cases h
 case h_1 ik ie es hik hie hes=>
 cases hko:keyOf ik.kd k with
 |false=>rw[hko] at h;cases h
 |true=>
 rw[hko] at h;simp only[cond_true] at h;have hu:=(hT s i hi).map hkd;obtain⟨d,hud,_,hdk⟩:=(hT kt ik hik).under;have hck:∀e,(Instr.checkKey e 10000 kt (cv ρ k)).run P w= .ok () w:=fun e=>run_checkKey hud (pq hdk hko ρ) e 9999
 have hcell:(∃b clock,m= .map b∧au b W.bl=some (.map es clock))∨(m= .raw (.map none)∧es=[]):=by
  split at hes
  ·rename_i b;split at hes
   ·rename_i es' clock hb;obtain rfl:=zq hes;exact .inl ⟨b,clock,rfl,hb⟩
   ·cases hes
  ·obtain rfl:=zq hes;exact .inr ⟨rfl,rfl⟩
  ·cases hes
 have aqz:∀x∈es,x.1.ok W.nx∧x.2.1.ok W.nx:=by
  rcases hcell with⟨b,clock,_,hb⟩|⟨_,rfl⟩
  ·exact (hW.ok b _ hb).2.1
  ·intro x hx;cases hx
 have Y8:∀(j:Nat) (u:Value),(Instr.findKey kt (cv ρ k) (es.map (aI ρ))).run P w= .ok (some (j,u)) w→(Instr.lookup s (cv ρ m) (cv ρ k) ok).run P w= .ok (if ok then .tuple #[u,.bool true] else u) w:=fun j u hr=>by
  rcases hcell with⟨b,clock,rfl,hb⟩|⟨rfl,rfl⟩
  ·have hheap:w.heap[ρ.blk b]? =some (.map (es.map (aI ρ)).toArray clock):=hW.rep b _ hb;simp only[Instr.lookup,cv,Sem.run_bind,run_underlying hu,Result.andThen_ok,Go.MapKept.run_getObj_map hheap,Sem.run_pure,hck,hr]
  ·have hr':(Instr.findKey kt (cv ρ k) (#[]:Array MapEntry).toList).run P w= .ok (some (j,u)) w:=hr;simp only[Instr.lookup,cv,Sem.run_bind,run_underlying hu,Result.andThen_ok,Sem.run_pure,hck,hr']
 have Y9:∀(z:Value),(Instr.findKey kt (cv ρ k) (es.map (aI ρ))).run P w= .ok none w→(zeroValue et).run P w= .ok z w→(Instr.lookup s (cv ρ m) (cv ρ k) ok).run P w= .ok (if ok then .tuple #[z,.bool false] else z) w:=fun z hr hz=>by
  rcases hcell with⟨b,clock,rfl,hb⟩|⟨rfl,rfl⟩
  ·have hheap:w.heap[ρ.blk b]? =some (.map (es.map (aI ρ)).toArray clock):=hW.rep b _ hb;simp only[Instr.lookup,cv,Sem.run_bind,run_underlying hu,Result.andThen_ok,Go.MapKept.run_getObj_map hheap,Sem.run_pure,hck,hr,hz]
  ·have hr':(Instr.findKey kt (cv ρ k) (#[]:Array MapEntry).toList).run P w= .ok none w:=hr;simp only[Instr.lookup,cv,Sem.run_bind,run_underlying hu,Result.andThen_ok,Sem.run_pure,hck,hr',hz]
 split at h
 ·rename_i j u hf;obtain⟨x,_,hx,_,hxv⟩:=EI es 0 hf;obtain rfl:=zq h;have Ei:=run_findKey (w:=w) hud (mO hdk hko ρ es 0 hf);rw[Y8 _ _ Ei];have huo:u.ok W.nx:=hxv ▸ (aqz x (zD hx)).2
  cases ok
  ·exact⟨rfl,huo⟩
  ·exact⟨rfl,huo,trivial,trivial⟩
 ·rename_i hf;obtain⟨z,hz,rfl⟩:=zi.1 h;have Ei:=run_findKey (w:=w) hud (mO hdk hko ρ es 0 hf);obtain⟨hz1,hz2⟩:=Gc (hT et ie hie) hz ρ W.nx w;rw[Y9 _ Ei hz1]
  cases ok
  ·exact⟨rfl,hz2⟩
  ·exact⟨rfl,hz2,trivial,trivial⟩
 ·cases h
def uA (k:AV):List (AV×AV)→Option (Option AV)
 |[]=>some none
 |x::l=>match mH k x.1 with
  |some true=>some (some x.2)
  |some false=>uA k l
  |none=>none
theorem Ea {a b:AV}(h:mH a b=some false)(ρ:Env):cv ρ a≠cv ρ b:=by
 unfold mH at h;split at h
 ·rename_i l m;have h:NW l m=false:=zq h;intro e;simp only[cv,Value.string.injEq] at e
  have:NW l m=true:=(uF _ _).2 (by
   have:=yV (fun b:ByteArray=>b.data.toList) e
   simpa [ag] using this)
  rw[this] at h;cases h
 ·split at h
  ·rename_i hk;subst hk;have h:=zq h;intro e;simp only[cv,Value.int.injEq,true_and] at e;have:=(beq_iff _ _).2 (Int.ofNat.inj e);rw[this] at h;cases h
  ·cases h
 ·cases h
theorem r9 {k:AV}(ρ:Env):∀(l:List (AV×AV)) {r:Option AV},uA k l=some r→(match r with|some v=>∃x∈l,cv ρ x.1=cv ρ k∧x.2=v|none=>∀x∈l,cv ρ x.1≠cv ρ k)
 |[],r,h=>by
  simp only[uA,Option.some.injEq] at h;subst h;intro x hx;cases hx
 |x::l,r,h=>by
  simp only[uA] at h;split at h
  ·rename_i he;obtain rfl:=zq h;exact⟨x,zb,(Nn he ρ).symm,rfl⟩
  ·rename_i he;have ih:=r9 ρ l h
   cases r with
   |some v=>
    obtain⟨y,hy,h1⟩:=ih;exact⟨y,ze _ hy,h1⟩
   |none=>
    intro y hy;rcases zQ.1 hy with rfl|hy
    ·exact fun e=>Ea he ρ e.symm
    ·exact ih y hy
  ·cases h
theorem U8 {α β:Type}{l:List (α×β)}(hn:(l.map (·.1)).Nodup){k:α}{v v':β}(h:(k,v)∈l)(h':(k,v')∈l):v=v':=by
 induction l with
 |nil=>cases h
 |cons x l ih=>
  simp only[List.map_cons,List.nodup_cons] at hn;rcases zQ.1 h with h1|h1<;>rcases zQ.1 h' with h2|h2
  ·exact (zm (h1.trans h2.symm)).2
  ·exact (hn.1 (zX.2 ⟨(k,v'),h2,by rw[← h1]⟩)).elim
  ·exact (hn.1 (zX.2 ⟨(k,v),h1,by rw[← h2]⟩)).elim
  ·exact ih hn.2 h1 h2
def Ql (T:bH)(W:AW)(s:Nat)(m k:AV)(ok:Bool):Option AV:=
 match T.get s,m with
 |some i,.map b=>match i.kd,au b W.bl with
  | .map kt et,some (.lS es)=>match T.get kt,T.get et with
    |some ik,some ie=>cond (keyOf ik.kd k && es.all fun x=>keyOf ik.kd x.1) (match uA k es with
     |some (some v)=>some (cond ok (.tuple [v,.bool true]) v)
     |some none=>(Rm ie).map fun z=>cond ok (.tuple [z,.bool false]) z
     |none=>none) none
    |_,_=>none
  |_,_=>none
 |_,_=>none
theorem Qk {P:Program}{T:bH}(hT:aZ P T){w0:World}{ρ:Env}{W:AW}{w:World}(hW:aJ w0 ρ W w){s:Nat}{m k v:AV}{ok:Bool}(h:Ql T W s m k ok=some v):
 (Instr.lookup s (cv ρ m) (cv ρ k) ok).run P w= .ok (cv ρ v) w∧v.ok W.nx:=by
 unfold Ql at h;split at h
 case h_2=>cases h
 case h_1 i b hi=>
 split at h
 case h_2=>cases h
 case h_1 kt et es hkd hb=>
 split at h
 case h_2=>cases h
 case h_1 ik ie hik hie=>
 cases hko:(keyOf ik.kd k && es.all fun x=>keyOf ik.kd x.1) with
 |false=>rw[hko] at h;cases h
 |true=>
 rw[hko] at h;simp only[cond_true] at h;simp only[Bool.and_eq_true] at hko;obtain⟨hko,hall⟩:=hko;have hall:=zY.1 hall;have hu:=(hT s i hi).map hkd;obtain⟨d,hud,_,hdk⟩:=(hT kt ik hik).under;have hck:∀e,(Instr.checkKey e 10000 kt (cv ρ k)).run P w= .ok () w:=fun e=>run_checkKey hud (pq hdk hko ρ) e 9999
 obtain⟨arr,clock,hheap,hperm,JZ⟩:=hW.rep b _ hb
 have hkeys:∀x∈arr.toList,IsKey d x.key:=fun x hx=>by
  have:(x.key,x.val)∈arr.toList.map fun e=>(e.key,e.val):=zX.2 ⟨x,hx,rfl⟩
  obtain⟨y,hy,e⟩:=zX.1 (hperm.mem_iff.1 this);have:=(zm e).1;rw[← this];exact pq hdk (hall y hy) ρ
 have hn2:((arr.toList.map fun e=>(e.key,e.val)).map (·.1)).Nodup:=by
  refine (hperm.map (·.1)).nodup_iff.2 ?_;rw[yC];exact JZ
 have Y8:∀(j:Nat) (u:Value),Instr.findNow d (cv ρ k) arr.toList 0=some (some (j,u))→(Instr.lookup s (cv ρ (.map b)) (cv ρ k) ok).run P w= .ok (if ok then .tuple #[u,.bool true] else u) w:=fun j u hr=>by
  have hr:=run_findKey (P:=P) (w:=w) hud hr;simp only[Instr.lookup,cv,Sem.run_bind,run_underlying hu,Result.andThen_ok,Go.MapKept.run_getObj_map hheap,Sem.run_pure,hck,hr]
 have Y9:∀(z:Value),Instr.findNow d (cv ρ k) arr.toList 0=some none→(zeroValue et).run P w= .ok z w→(Instr.lookup s (cv ρ (.map b)) (cv ρ k) ok).run P w= .ok (if ok then .tuple #[z,.bool false] else z) w:=fun z hr hz=>by
  have hr:=run_findKey (P:=P) (w:=w) hud hr;simp only[Instr.lookup,cv,Sem.run_bind,run_underlying hu,Result.andThen_ok,Go.MapKept.run_getObj_map hheap,Sem.run_pure,hck,hr,hz]
 have hspec:=findNow_spec (pq hdk hko ρ) arr.toList 0 hkeys;split at h
 ·rename_i u hf;obtain⟨x,hx,hxk,rfl⟩:=r9 ρ es hf;obtain rfl:=zq h;have hin:(cv ρ k,cv ρ x.2)∈arr.toList.map fun e=>(e.key,e.val):=hperm.mem_iff.2 (zX.2 ⟨x,hx,by rw[hxk]⟩)
  have huo:x.2.ok W.nx:=((hW.ok b _ hb).2.1 x hx).2;rcases hspec with⟨_,hno⟩|⟨j,e,h1,h2,h3⟩
  ·obtain⟨e,he,hee⟩:=zX.1 hin;exact (hno e he (zm hee).1).elim
  ·have he:(cv ρ k,e.val)∈arr.toList.map fun e=>(e.key,e.val):=zX.2 ⟨e,zD h2,by rw[h3]⟩
   have hv:=U8 hn2 he hin;rw[hv] at h1;rw[Y8 _ _ h1]
   cases ok
   ·exact⟨rfl,huo⟩
   ·exact⟨rfl,huo,trivial,trivial⟩
 ·rename_i hf;have hno:=r9 ρ es hf;obtain⟨z,hz,rfl⟩:=zi.1 h;obtain⟨hz1,hz2⟩:=Gc (hT et ie hie) hz ρ W.nx w;rcases hspec with⟨h1,_⟩|⟨j,e,h1,h2,h3⟩
  ·rw[Y9 _ h1 hz1]
   cases ok
   ·exact⟨rfl,hz2⟩
   ·exact⟨rfl,hz2,trivial,trivial⟩
  ·have he:(e.key,e.val)∈arr.toList.map fun e=>(e.key,e.val):=zX.2 ⟨e,zD h2,rfl⟩
   obtain⟨y,hy,hye⟩:=zX.1 (hperm.mem_iff.1 he);exact (hno y hy ((zm hye).1.trans h3)).elim
 ·cases h
end Ex
namespace Ex
open Go.RowKit
def tq (T:bH)(W:AW)(s:Nat):AV→Option (AV×AW)
 | .str l=>match T.get s with
   |some i=>match i.kd with
    | .string=>some (.ptr W.nx 0,W.push (.oP l 0))
    |_=>none
   |none=>none
 | .map b=>match T.get s,au b W.bl with
   |some i,some (.map _ clock)=>match i.kd with
    | .map _ _=>some (.ptr W.nx 0,W.push (.nV b clock [] clock))
    |_=>none
   |_,_=>none
 |_=>none
theorem Jr {P:Program}{T:bH}(hT:aZ P T){w0:World}{ρ:Env}{W W':AW}{w:World}(hW:aJ w0 ρ W w){s:Nat}{x v:AV}(h:tq T W s x=some (v,W')):
 ∃ρ' w',(Instr.range s (cv ρ x)).run P w= .ok (cv ρ' v) w'∧Post w0 ρ W w ρ' W' w'∧v.ok W'.nx:=by
 unfold tq at h;split at h
 ·rename_i l;split at h
  case h_2=>cases h
  case h_1 i hi=>
  split at h
  case h_2=>cases h
  case h_1 hk=>
  obtain⟨rfl,rfl⟩:=zm (zq h)
  refine⟨_,_,?_,hW.new (c:=0) (kF w (.stringIter (ag l) 0)) (zn _) zw (k:=.oP l 0) trivial (by
   show _=_;rw[Env.aM];exact World.alloc_heap_new _ _),zS _⟩
  simp only[cv,Env.aM];exact run_range_string w s (ag l) ((hT s i hi).string hk)
 ·rename_i b;split at h
  case h_2=>cases h
  case h_1 i es clock hi hb=>
  split at h
  case h_2=>cases h
  case h_1 kt et hk=>
  obtain⟨rfl,rfl⟩:=zm (zq h);obtain⟨p1,_⟩:=hW.ok b _ hb
  refine⟨_,_,?_,hW.new (c:=0) (kF w (.mapIter (some (ρ.blk b)) clock #[] clock)) (zn _) zw (k:=.nV b clock [] clock) p1 (by
   show _=_;rw[Env.aM,(Env.gu ρ W.nx w.heap.size 0).blk b p1];exact World.alloc_heap_new _ _),zS _⟩
  simp only[cv,Env.aM];exact run_range_map w s kt et (ρ.blk b) _ clock ((hT s i hi).map hk) (hW.rep b _ hb)
 ·cases h
def Co (W:AW)(str:Bool):AV→Option (AV×AW)
 | .ptr b 0=>match str,au b W.bl with
   |true,some (.oP l pos)=>match l[pos]? with
    |some c=>cond (Nat.blt c 128) (some (.tuple [.bool true,.int .i64 (.ofNat pos),.int .i32 (.ofNat c)],⟨W.nx,ib b (.oP l (pos+1)) W.bl,addN b W.az,W.gl⟩)) none
    |none=>some (.tuple [.bool false],W)
   |false,some (.nV m since seen last)=>match au m W.bl with
    |some (.map [] _)=>if Nat.ble since last then some (.tuple [.bool false],W) else none
    |some (.map [x] clock)=>if Nat.blt x.2.2 since && Nat.ble since last then
      cond (iN x.2.2 seen) (some (.tuple [.bool false],W)) (some (.tuple [.bool true,x.1,x.2.1],⟨W.nx,ib b (.nV m since (seen++[x.2.2]) clock) W.bl,addN b W.az,W.gl⟩)) else none
    |_=>none
   |_,_=>none
 |_=>none
theorem MX {P:Program}{w0:World}{ρ:Env}{W W':AW}{w:World}(hW:aJ w0 ρ W w){str:Bool}{ty:Nat}{x v:AV}(h:Co W str x=some (v,W')):
 ∃w',(Instr.next (cv ρ x) str ty).run P w= .ok (cv ρ v) w'∧Post w0 ρ W w ρ W' w'∧v.ok W'.nx:=by
 unfold Co at h;split at h
 case h_2=>cases h
 case h_1 b=>
 split at h
 ·rename_i l pos hb;have hk:w.heap[ρ.blk b]? =some (.stringIter (ag l) pos):=hW.rep b _ hb;split at h
  ·rename_i c hc;have hlt:=(zf.1 hc).1;have hcv:=(zf.1 hc).2
   cases hc8:Nat.blt c 128 with
   |false=>rw[hc8] at h;cases h
   |true=>
   rw[hc8] at h;obtain⟨rfl,rfl⟩:=zm (zq h);have hc8:=aK hc8;have hp:pos < (ag l).size:=by rw[aC];exact hlt
   have hby:((ag l)[pos]'hp).toNat=c:=by
    simp[ag,ByteArray.getElem_eq_getElem_data,hcv];omega
   have hrun:=Go.Lib.run_next_ascii_at (P:=P) w (ρ.blk b) (ag l) pos ty hk hp (by rw[hby];exact hc8)
   rw[hby] at hrun;obtain⟨p1,p2,p3,p4⟩:=hW.ok b _ hb;refine⟨_,hrun,hW.write (k:=.oP l (pos+1)) hb ⟨rfl,rfl,rfl,by rw[Go.Lib.iterAt_size];exact zn _,fun i _ hi=>Go.Lib.iterAt_other w _ i _ _ (xq hi)⟩ trivial (Go.Lib.iterAt_heap w _ _ _ _ hk),trivial,trivial,trivial,trivial⟩
  ·rename_i hc;obtain⟨rfl,rfl⟩:=zm (zq h);have hp:¬pos < (ag l).size:=by rw[aC];have:=yI.1 hc;omega
   exact⟨w,Go.Lib.run_next_end_at (P:=P) w (ρ.blk b) (ag l) pos ty hk hp,Post.refl hW,trivial,trivial⟩
 ·rename_i m since seen last hb;have hk:w.heap[ρ.blk b]? =some (.mapIter (some (ρ.blk m)) since seen.toArray last):=hW.rep b _ hb;split at h
  ·rename_i clock hm;split at h
   case isFalse=>cases h
   case isTrue hle=>
   have hle:=zk hle;obtain⟨rfl,rfl⟩:=zm (zq h);have hmm:w.heap[ρ.blk m]? =some (.map #[] clock):=hW.rep m _ hm;rcases run_next_at (P:=P) w ty (ρ.blk b) (ρ.blk m) since last seen.toArray #[] clock hk hmm (fun x hx=>by cases hx) hle with⟨_,hr⟩|⟨e,he,_⟩
   ·exact⟨w,hr,Post.refl hW,trivial,trivial⟩
   ·simp[leftOf] at he
  ·rename_i x clock hm;split at h
   case isFalse=>cases h
   case isTrue hc=>
   simp only[Bool.and_eq_true] at hc;have hlt:=aK hc.1;have hle:=zk hc.2;have hmm:w.heap[ρ.blk m]? =some (.map #[aI ρ x] clock):=hW.rep m _ hm;have hmo:=(hW.ok m _ hm).2.1 x zw
   have hrun:=run_next_at (P:=P) w ty (ρ.blk b) (ρ.blk m) since last seen.toArray #[aI ρ x] clock hk hmm (fun y hy=>by
    obtain rfl:y=aI ρ x:=by simpa using hy
    exact hlt) hle
   cases hs:iN x.2.2 seen with
   |true=>
    rw[hs] at h;obtain⟨rfl,rfl⟩:=zm (zq h);have hin:=jy hs
    have hleft:leftOf #[aI ρ x] seen.toArray=#[]:=by
     have hb':(aI ρ x).born∈seen:=hin;simp[leftOf,hb']
    rcases hrun with⟨_,hr⟩|⟨e,he,_⟩
    ·exact⟨w,hr,Post.refl hW,trivial,trivial⟩
    ·rw[hleft] at he;simp at he
   |false=>
    rw[hs] at h;obtain⟨rfl,rfl⟩:=zm (zq h);have aqD:=nH hs
    have hleft:leftOf #[aI ρ x] seen.toArray=#[aI ρ x]:=by
     have hb':(aI ρ x).born ∉ seen:=aqD;simp[leftOf,hb']
    rcases hrun with⟨h0,_⟩|⟨e,he,w1,hw1,hr⟩
    ·rw[hleft] at h0;cases h0
    ·rw[hleft] at he;obtain rfl:e=aI ρ x:=by simpa using he
     obtain⟨p1,p2,p3,p4⟩:=hW.ok b _ hb;have aiP:w1.heap=w.heap:=by rcases hw1 with rfl|rfl<;>rfl
     refine⟨_,hr,hW.write (k:=.nV m since (seen++[x.2.2]) clock) hb ⟨?_,?_,?_,?_,fun i _ hi=>?_⟩ p2 ?_,trivial,hmo.1,hmo.2,trivial⟩
     ·rcases hw1 with rfl|rfl<;>rfl
     ·rcases hw1 with rfl|rfl<;>rfl
     ·rcases hw1 with rfl|rfl<;>rfl
     ·simp[Go.ChangeMaps.setBlock,aiP]
     ·simp only[Go.ChangeMaps.setBlock,aiP];rw[yU hi]
     ·show _=_;simp only[Go.ChangeMaps.setBlock,aiP];rw[yO p4];simp[aI]
  ·cases h
 ·cases h
def Td (b:Nat):List (AV×AV×Nat)→Option (AV×AV)
 |[]=>none
 |x::l=>cond (Nat.beq x.2.2 b) (some (x.1,x.2.1)) (Td b l)
def QJ (W:AW):AV→Option AV
 | .ptr b 0=>match au b W.bl with
   |some (.nV m _ seen last)=>match au m W.bl,seen.getLast? with
    |some (.map es clock),some s=>cond (Nat.beq clock last) ((Td s es).map fun x=>.tuple [x.1,x.2]) none
    |_,_=>none
   |_=>none
 |_=>none
theorem EH {ρ:Env}{n s:Nat}:∀{es:List (AV×AV×Nat)} {x:AV×AV},Td s es=some x→(∀y∈es,y.1.ok n∧y.2.1.ok n)→
 (∃e,(es.map (aI ρ)).find? (fun e=>e.born == s)=some e∧e.key=cv ρ x.1∧e.val=cv ρ x.2)∧x.1.ok n∧x.2.ok n
 |[],x,h,_=>by cases h
 |y::l,x,h,ho=>by
  unfold Td at h
  cases hb:Nat.beq y.2.2 s with
  |true=>
   rw[hb] at h;obtain rfl:=zq h;have hb:=(beq_iff _ _).1 hb;refine⟨⟨aI ρ y,?_,rfl,rfl⟩,(ho y zb).1,(ho y zb).2⟩;rw[zO,List.find?_cons];simp[aI,hb]
  |false=>
   rw[hb] at h;have hne:¬y.2.2=s:=fun e=>by rw[(beq_iff _ _).2 e] at hb;cases hb
   obtain⟨⟨e,h1,h2⟩,h3⟩:=EH (ρ:=ρ) h fun z hz=>ho z (ze _ hz)
   refine⟨⟨e,?_,h2⟩,h3⟩;rw[zO,List.find?_cons];have:((aI ρ y).born == s)=false:=by simp[aI,hne]
   rw[this];exact h1
theorem QI {P:Program}{w0:World}{ρ:Env}{W:AW}{w:World}(hW:aJ w0 ρ W w){x v:AV}(h:QJ W x=some v):
 (Instr.entry (cv ρ x)).run P w= .ok (cv ρ v) w∧v.ok W.nx:=by
 unfold QJ at h;split at h
 case h_2=>cases h
 case h_1 b=>
 split at h
 case h_2=>cases h
 case h_1 m since seen last hb=>
 split at h
 case h_2=>cases h
 case h_1 es clock s hm hs=>
 cases hcl:Nat.beq clock last with
 |false=>rw[hcl] at h;cases h
 |true=>
 rw[hcl] at h;obtain rfl:=(beq_iff _ _).1 hcl;obtain⟨y,hy,rfl⟩:=zi.1 h;have hk:w.heap[ρ.blk b]? =some (.mapIter (some (ρ.blk m)) since seen.toArray clock):=hW.rep b _ hb;have hmm:w.heap[ρ.blk m]? =some (.map (es.map (aI ρ)).toArray clock):=hW.rep m _ hm;obtain⟨⟨e,h1,h2,h3⟩,h4,h5⟩:=EH (ρ:=ρ) hy (hW.ok m _ hm).2.1;have hback:seen.toArray.back? =some s:=by simpa using hs
 have hfind:(es.map (aI ρ)).toArray.find? (fun e=>e.born == s)=some e:=by rw[List.find?_toArray];exact h1
 refine⟨?_,h4,h5,trivial⟩;simp only[cv,Instr.entry,getObj,Sem.run_bind,Sem.run,hk,hmm,Result.andThen,hback,hfind,bne_self_eq_false,Bool.false_eq_true,if_false];simp[h2,h3,aH]
def KG:List Nat→Bool
 |[]=>true
 |c::l=>cond (Nat.blt c 256) (KG l) false
theorem Iq:∀{l:List Nat},KG l=true→∀c∈l,c < 256
 |[],_,c,h=>by cases h
 |x::l,h,c,hc=>by
  unfold KG at h
  cases hx:Nat.blt x 256 with
  |false=>rw[hx] at h;cases h
  |true=>
   rw[hx] at h;rcases zQ.1 hc with rfl|hc
   ·exact aK hx
   ·exact Iq h c hc
def LW (c:Nat):List (Int×Int×Bool)→Option Bool
 |[]=>none
 |(.ofNat a,.ofNat b,r)::l=>cond (Nat.beq a c && Nat.beq b c) (some r) (LW c l)
 |_::l=>LW c l
theorem sM {c:Nat}:∀{fs:List (Int×Int×Bool)} {x:Int} {r:Bool},LW c fs=some r→kM fs x→decide (x=(c:Int))=r
 |[],_,_,h,_=>by cases h
 |f::l,x,r,h,hk=>by
  have hl:kM l x:=fun g hg=>hk g (ze _ hg)
  unfold LW at h;split at h
  ·rename_i e;cases e
  ·rename_i a b q l' e;obtain⟨rfl,rfl⟩:=yP e
   cases hq:Nat.beq a c && Nat.beq b c with
   |false=>rw[hq] at h;exact sM h hl
   |true=>
    rw[hq] at h;obtain rfl:=zq h;simp only[Bool.and_eq_true,beq_iff] at hq;obtain⟨rfl,rfl⟩:=hq;have:=hk _ zb;simp only at this;rw[← this,yX];simp only[decide_eq_true_eq,Bool.and_eq_true,Int.ofNat_eq_natCast];omega
  ·rename_i e;obtain⟨rfl,rfl⟩:=yP e;exact sM h hl
def Wn (T:bH)(s:Nat):AV→AV→Option Bool
 | .sym fs _,.int .i64 (.ofNat c)=>match BV T s with
   |some (.int .i64)=>LW c fs
   |_=>none
 | .fn _ _ _,.raw .nilFunc=>match BV T s with|some .func=>some false|_=>none
 | .ptr b o,.ptr b' o'=>cond (Nat.beq b b') (match BV T s with
   |some (.ptr e)=>match T.get e with
    |some ie=>cond (Nat.beq ie.size 0) none (some (Nat.beq o o'))
    |none=>none
   |_=>none) none
 |_,_=>none
theorem aa3 {P:Program}{T:bH}(hT:aZ P T){ρ:Env}{w:World}{s:Nat}{x y:AV}{r:Bool}(h:Wn T s x y=some r){n:Nat}(hok:x.ok n):(Op.equal s (cv ρ x) (cv ρ y)).run P w= .ok r w:=by
 unfold Wn at h;split at h
 ·rename_i fs z c;split at h
  ·rename_i hk;obtain⟨i,hi,hk⟩:=fA hk;have hu:=(hT s i hi).int hk;have hz:=sM h hok
   have:∀d,(Op.equalIn (d+1) s (.int .i64 z) (.int .i64 (c:Int))).run P w= .ok r w:=fun d=>by
    have hbe:(z == (c:Int))=r:=by rw[← hz,yX];simp
    simp[Op.equalIn,run_underlying hu,hbe]
   simp only[cv];exact this 9999
  ·cases h
 ·split at h
  ·rename_i hk;obtain⟨i,hi,hk⟩:=fA hk;obtain⟨a,b,c,hu⟩:=(hT s i hi).func hk;obtain rfl:=zq h;have:∀d f x y,(Op.equalIn (d+1) s (.func f x y) .nilFunc).run P w= .ok false w:=fun d f x y=>by simp[Op.equalIn,run_underlying hu]
   simp only[cv];exact this 9999 _ _ _
  ·cases h
 ·rename_i b o b' o'
  cases hb:Nat.beq b b' with
  |false=>rw[hb] at h;cases h
  |true=>
  rw[hb] at h;obtain rfl:=(beq_iff _ _).1 hb;simp only[cond_true] at h;split at h
  ·rename_i e hk;obtain⟨i,hi,hk⟩:=fA hk;have hu:=(hT s i hi).ptr hk;split at h
   ·rename_i ie hie
    cases hz:Nat.beq ie.size 0 with
    |true=>rw[hz] at h;cases h
    |false=>
    rw[hz] at h;obtain rfl:=zq h;have hne:ie.size≠0:=fun e=>by rw[e] at hz;cases hz
    have hsz:=(hT e ie hie).sizeOf w
    have:∀d,(Op.equalIn (d+1) s (.pointer (some ⟨ρ.blk b,o,none⟩)) (.pointer (some ⟨ρ.blk b,o',none⟩))).run P w= .ok (Nat.beq o o') w:=fun d=>by
     have hbe:((⟨ρ.blk b,o,none⟩:Addr) == ⟨ρ.blk b,o',none⟩)=Nat.beq o o':=by
      rw[yX,beq_iff,beq_iff_eq];simp
     simp[Op.equalIn,run_underlying hu,hsz,hne,sameAddr,hbe]
    simp only[cv];exact this 9999
   ·cases h
  ·cases h
 ·cases h
theorem Tx {P:Program}{T:bH}(hT:aZ P T){ρ:Env}{n N:Nat}{t:TT}{a:Act}{w:World}{op:BinOp}{s ty:Nat}{x y:Operand}{dst:Option Tmp}{type:TypeId}{pos:String}{after:Array Edge}{guard:Option (Nat×Bool)}{b r:Bool}(ht:aS ρ n N t a)(h:Wn T s (ev t x) (ev t y)=some b)(ho:(op= .eql∧r=b)∨(op= .neq∧r= !b)):
 (execOp a.eval (⟨dst,.binOp op s x y ty,type,pos,after,guard⟩:Oper)).run P w= .ok (.value (cv ρ (.bool r))) w:=by
 have hr:=aa3 hT (ρ:=ρ) (w:=w) h (ht.fQ x);have hx:=ht.eval x;have hy:=ht.eval y;unfold Wn at h;split at h
 ·rename_i fs z c e1 e2;rw[e1] at hx;rw[e2] at hy;have hok:=ht.fQ x;rw[e1] at hok;split at h
  ·have hz:=sM h hok;have hbe:(z == (c:Int))=b:=by rw[← hz,yX];simp
   have hbn:(z != (c:Int))= !b:=by rw[bne,hbe]
   rcases ho with⟨rfl,rfl⟩|⟨rfl,rfl⟩<;>simp only[execOp,hx,hy,cv,binOp,eqGuard]<;>simp[Op.intCmp,hbe,hbn]
  ·cases h
 ·rename_i e1 e2;rw[e1] at hx hr;rw[e2] at hy hr;rcases ho with⟨rfl,rfl⟩|⟨rfl,rfl⟩<;>simp only[execOp,hx,hy,cv,binOp,eqGuard]<;>simp only[cv] at hr<;>simp[hr]
 ·rename_i e1 e2;rw[e1] at hx hr;rw[e2] at hy hr;rcases ho with⟨rfl,rfl⟩|⟨rfl,rfl⟩<;>simp only[execOp,hx,hy,cv,binOp,eqGuard]<;>simp only[cv] at hr<;>simp[hr]
 ·cases h
def aa0 (P:Program)(T:bH)(W:AW)(s d:Nat)(x:AV):Option AV:=
 match T.get s,T.get d with
 |some i,some j=>match i.kd,j.kd with
  | .slice e 1 _,.string=>match T.get e with
    |some ie=>match ie.kd with
     | .int .u8=>match lg W.bl 1 x with
       |some (_,news)=>(pV news).map .str
       |none=>none
     |_=>none
    |none=>none
  | .ptr e,.LG=>match x with
    | .ptr b o=>match au b W.bl,T.get e with
      |some (.cells vs _ none),some ie=>cond (Nat.beq ie.size 0) none (cond (Nat.blt o vs.length) (some (.ptr b o)) none)
      |_,_=>none
    |_=>none
  | .LG,.ptr u=>match x with
    | .ptr b o=>match au b W.bl,T.get u with
      |some (.cells vs e none),some _=>cond (liesAt P P.depth e (vs.length / P.cellsOf e) o u 1) (some (.ptr b o)) none
      |_,_=>none
    |_=>none
  |_,_=>none
 |_,_=>none
theorem UM (l:List Nat):(l.map fun (c:Nat)=>(c:Int)).foldl (fun r n=>r.push (UInt8.ofNat n.toNat)) ByteArray.empty=ag l:=by
 have key:∀(l:List Nat) (b:ByteArray),((l.map fun (c:Nat)=>(c:Int)).foldl (fun r n=>r.push (UInt8.ofNat n.toNat)) b).data.toList=b.data.toList++l.map UInt8.ofNat:=by
  intro l
  induction l with
  |nil=>intro b;simp
  |cons c l ih=>
   intro b;rw[zO,wu,ih];simp[ByteArray.push]
 apply xn;apply yE;rw[key];simp[ag]
theorem Wj {P:Program}{T:bH}(hT:aZ P T){w0:World}{ρ:Env}{W:AW}{w:World}(hW:aJ w0 ρ W w){s d:Nat}{x v:AV}(h:aa0 P T W s d x=some v)(hx:x.ok W.nx):
 (convert s d (cv ρ x)).run P w= .ok (cv ρ v) w∧v.ok W.nx:=by
 unfold aa0 at h;split at h
 case h_2=>cases h
 case h_1 i j hi hj=>
 split at h
 ·rename_i e uZ hk hkj;obtain⟨hu,_⟩:=(hT s i hi).slice hk;have hud:=(hT d j hj).string hkj;split at h
  case h_2=>cases h
  case h_1 ie hie=>
  split at h
  case h_2=>cases h
  case h_1 hke=>
  have hue:=(hT e ie hie).int hke;split at h
  case h_2=>cases h
  case h_1 m news hr=>
  obtain⟨l,hl,rfl⟩:=zi.1 h;obtain⟨A,c,h1,h2,h3,h4⟩:=mg hW hr;have hb:=pU ρ _ hl;refine⟨?_,trivial⟩;rw[h1]
  have ana:(convert s d (.slice A m c)).run P w=(Conv.bytesToString (.slice A m c)).run P w:=by
   cases A<;>simp[convert,run_underlying hu,run_underlying hud,run_underlying hue]
  rw[ana]
  cases A with
  |none=>
   have hn:news=[]:=by
    cases news with
    |nil=>rfl
    |cons a l'=>
     obtain⟨_,h5,_⟩:=h3 (by simp[aH])
     cases h5
   subst hn
   have:l=[]:=by
    simp only[pV,Option.some.injEq] at hl;exact hl.symm
   subst this;rfl
  |some a=>
   have hload:(loadCells a m).run P w= .ok ((l.map fun (c:Nat)=>(c:Int)).map (Value.int .u8)).toArray w:=by
    have hcs:aH ρ news=(l.map fun (c:Nat)=>(c:Int)).map (Value.int .u8):=by rw[hb,yC];rfl
    by_cases hn:news=[]
    ·subst hn;have hm:m=0:=by simpa using h2.symm
     subst hm
     have:l=[]:=by
      simp only[pV,Option.some.injEq] at hl;exact hl.symm
     subst this;exact run_loadCells_list (P:=P) w a [] (fun j v hj=>by simp at hj)
    ·obtain⟨a',ha',_,hsrc⟩:=h3 (fun e=>hn (by cases news with|nil=>rfl|cons a l=>simp[aH] at e))
     obtain rfl:=zq ha';have:=run_loadCells_list (P:=P) w a (aH ρ news) hsrc;rw[ay,h2,hcs] at this;exact this
   rw[run_bytesToString w a m c _ hload,UM];rfl
 ·rename_i e hk hkj;have hu:=(hT s i hi).ptr hk;have hud:=(hT d j hj).LG hkj;split at h
  case h_2=>cases h
  case h_1 b o=>
  split at h
  case h_2=>cases h
  case h_1 vs e' ie hb hie=>
  cases hz:Nat.beq ie.size 0 with
  |true=>rw[hz] at h;cases h
  |false=>
  rw[hz] at h
  cases ho:Nat.blt o vs.length with
  |false=>rw[ho] at h;cases h
  |true=>
  rw[ho] at h;obtain rfl:=zq h;obtain⟨f,z,hf,hfs,_⟩:=(hT e ie hie).info;have hheap:w.heap[ρ.blk b]? =some (.cells (aH ρ vs).toArray e' (0,0)):=hW.rep b _ hb;refine⟨?_,hx⟩;simp only[cv];exact Go.Lib.run_to_unsafe (P:=P) (w:=w) ⟨ρ.blk b,o,none⟩ hu hud hf (by rw[hfs];intro e;rw[e] at hz;cases hz) (e:=e') (cells:=vs.length) (by simp[World.shape?,hheap,ay]) (aK ho)
 ·rename_i u hk hkj;have hu:=(hT s i hi).LG hk;have hud:=(hT d j hj).ptr hkj;split at h
  case h_2=>cases h
  case h_1 b o=>
  split at h
  case h_2=>cases h
  case h_1 vs e' iu hb hiu=>
  cases hl:liesAt P P.depth e' (vs.length / P.cellsOf e') o u 1 with
  |false=>rw[hl] at h;cases h
  |true=>
  rw[hl] at h;obtain rfl:=zq h;obtain⟨f,z,hf,hfs,_⟩:=(hT u iu hiu).info;have hheap:w.heap[ρ.blk b]? =some (.cells (aH ρ vs).toArray e' (0,0)):=hW.rep b _ hb;refine⟨?_,hx⟩;simp only[cv];exact Go.Lib.run_from_unsafe (P:=P) (w:=w) ⟨ρ.blk b,o,none⟩ hu hud hf (e:=e') (cells:=vs.length) (by simp[World.shape?,hheap,ay]) hl
 ·cases h
def IZ (T:bH)(W:AW)(pt n:Nat):AV→Option (AV×AW)
 | .bU=>cond (Nat.beq n 0) (some (.str [],W)) none
 | .ptr b 0=>match T.get pt,au b W.bl with
   |some i,some (.cells vs e _)=>match i.kd,T.get e with
    | .ptr e',some ie=>match pV (vs.take n) with
      |some l=>if Nat.beq e e' && Nat.beq ie.size 1 && Nat.ble n vs.length && Nat.blt 0 n && Nat.blt n 1099511627776 && KG l then some (.str l,⟨W.nx,uU b W.bl,addN b W.az,W.gl⟩) else none
      |none=>none
    |_,_=>none
   |_,_=>none
 |_=>none
theorem Pb {P:Program}{T:bH}(hT:aZ P T){w0:World}{ρ:Env}{W W':AW}{w:World}(hW:aJ w0 ρ W w){pt it ty n:Nat}{x v:AV}(h:IZ T W pt n x=some (v,W')):
 ∃w',(Builtin.unsafeString_ #[pt,it] ty #[cv ρ x,.int .i64 (n:Int)]).run P w= .ok (cv ρ v) w'∧Post w0 ρ W w ρ W' w'∧v.ok W'.nx:=by
 unfold IZ at h;split at h
 ·cases hn:Nat.beq n 0 with
  |false=>rw[hn] at h;cases h
  |true=>
  rw[hn] at h;obtain rfl:=(beq_iff _ _).1 hn;obtain⟨rfl,rfl⟩:=zm (zq h);exact⟨w,Go.Lib.run_unsafeString_none (P:=P) (w:=w) pt it ty none,Post.refl hW,trivial⟩
 ·rename_i b;split at h
  case h_2=>cases h
  case h_1 i vs e op hi hb=>
  split at h
  case h_2=>cases h
  case h_1 e' ie hk hie=>
  split at h
  case h_2=>cases h
  case h_1 l hl=>
  split at h
  case isFalse=>cases h
  case isTrue hc=>
  simp only[Bool.and_eq_true] at hc;obtain⟨⟨⟨⟨⟨he,hs⟩,hle⟩,hpos⟩,hbig⟩,h8⟩:=hc;obtain rfl:=(beq_iff _ _).1 he;have hs:=(beq_iff _ _).1 hs;have hle:=zk hle;have hpos:=aK hpos;have hbig:=aK hbig;have h8:=Iq h8;obtain⟨rfl,rfl⟩:=zm (zq h);have hu:=(hT pt i hi).ptr hk;have hb':=pU ρ _ hl
  have hll:l.length=n:=by
   have:=yV List.length hb';rw[ay,zI,zJ] at this;omega
  obtain⟨cur,ou,hcell⟩:=oU (hW.rep b _ hb)
  have hvl:vs.length≤cur.size:=by
   rcases zP cur.size vs.length with hlt|hge
   ·have:=hcell cur.size _ (zg hlt);simp at this
   ·exact hge
  have aqV:P.cellsOf e=1:=by
   unfold Program.cellsOf;rw[(hT e ie hie).size,hs];rfl
  have hrun:=Go.Lib.run_unsafeString_row (P:=P) (w:=w) pt it ty e hu aqV (ρ.blk b) cur.size (by simp[World.shape?,ou]) (l.map UInt8.ofNat) (by
   intro e0;have:l=[]:=by simpa using e0
   rw[this] at hll;simp at hll;omega) (by rw[zI,hll];omega) (by rw[zI,hll];omega) (fun j y hj=>by
   rw[addr_add,yD];rw[yh] at hj
   cases hq:l[j]? with
   |none=>rw[hq] at hj;cases hj
   |some c0=>
    rw[hq] at hj;obtain rfl:=zq hj;have hv:(aH ρ (vs.take n))[j]? =some (.int .u8 (c0:Int)):=by rw[hb',yh,hq];rfl
    rw[lG] at hv
    cases hv2:(vs.take n)[j]? with
    |none=>rw[hv2] at hv;cases hv
    |some v2=>
     rw[hv2] at hv
     have hv3:vs[j]? =some v2:=by
      rw[yj] at hv2;split at hv2
      ·exact hv2
      ·cases hv2
     have:=sW (hW.rep b _ hb) hv3;rw[this];rw[yN] at hv;rw[hv];have au8:=h8 c0 (zD hq);simp;omega)
  rw[zI,hll] at hrun;refine⟨_,hrun,hW.kill hb ?_,trivial⟩;unfold World.freeze;split
  ·exact Gr.refl _ _
  ·refine⟨rfl,rfl,rfl,zw,fun j _ hj=>?_⟩
   show (w.heap.modify (ρ.blk b) _)[j]? =_;rw[wQ,za hj]
 ·cases h
def JX (T:bH)(s:Nat)(x:AV)(ix:AV):Option AV:=
 match T.get s,x,gK ix with
 |some i,.agg l,some j=>match i.kd with
  | .array n e sz=>cond (Nat.blt j n) (GV T e sz l (j * sz)) none
  |_=>none
 |_,_,_=>none
theorem Ny {P:Program}{T:bH}(hT:aZ P T){s:Nat}{x ix v:AV}(h:JX T s x ix=some v)(ρ:Env){m:Nat}(hx:x.ok m)(w:World):(Instr.index s (cv ρ x) (cv ρ ix)).run P w= .ok (cv ρ v) w∧v.ok m:=by
 unfold JX at h;split at h
 case h_2=>cases h
 case h_1 i l j hi hj=>
 obtain⟨k,rfl⟩:=bV hj;split at h
 case h_2=>cases h
 case h_1 n e sz hk=>
 cases hlt:Nat.blt j n with
 |false=>rw[hlt] at h;cases h
 |true=>
 rw[hlt] at h;simp only[cond_true] at h;obtain⟨hu,hs⟩:=(hT s i hi).array hk;have hj:j < n:=aK hlt;have hc:(0:Int)≤(j:Int)∧(j:Int) < (n:Int):=⟨zy,zy⟩;refine⟨?_,Mx h hx⟩;simp only[cv,Instr.index,asIntOf,Sem.run_bind,Sem.run_pure,Result.andThen_ok,run_underlying hu,if_pos hc,gp hs,Int.toNat_natCast,Mf hT h ρ w]
def afn (T:bH)(W:AW)(b:Builtin)(ats:List TypeId)(xs:List AV):Option (AV×AW):=
 match b,ats,xs with
 | .append,[s,u],[x,.str l]=>Cy T W s u x l
 | .copy,[s,u],[x,y]=>Tw T W s u x y
 | .clear,[s],[x]=>Kz T W s x
 | .cap,[s],[.bT]=>match BV T s with|some (.slice _ _ _)=>some (.int .i64 (.ofNat 0),W)|_=>none
 | .cap,[s],[.slice _ _ _ _ (some c)]=>match BV T s with|some (.slice _ _ _)=>some (.int .i64 (.ofNat c),W)|_=>none
 | .len,[s],[.map b]=>match BV T s,au b W.bl with
   |some (.map _ _),some (.map es _)=>some (.int .i64 (.ofNat es.length),W)
   |_,_=>none
 | .unsafeSliceData,_,[.bT]=>some (.bU,W)
 | .unsafeSliceData,_,[.slice b o _ _ (some (_c+1))]=>some (.ptr b o,W)
 | .unsafeSliceData,_,[.slice b o k n none]=>match au b W.bl with
   |some (.cells vs _ (some 1))=>cond (Nat.ble (k+n) vs.length) (cond (Nat.blt 0 n) (some (.ptr b o,W)) none) none
   |_=>none
 | .unsafeString,[pt,_],[x,.int .i64 (.ofNat n)]=>IZ T W pt n x
 |_,_,_=>none
theorem abl {P:Program}{T:bH}(hT:aZ P T){w0:World}{ρ:Env}{W W':AW}{w:World}(hW:aJ w0 ρ W w){b:Builtin}{ats:List TypeId}{xs:List AV}{v:AV}(h:afn T W b ats xs=some (v,W'))(hx:oks W.nx xs)(ty:TypeId)(cs:Array Bool):
 ∃ρ' w',(builtin b ats.toArray ty cs (aH ρ xs).toArray).run P w= .ok (.value (cv ρ' v)) w'∧Post w0 ρ W w ρ' W' w'∧v.ok W'.nx:=by
 unfold afn at h;split at h
 ·rename_i s u x l;obtain⟨ρ',w',h1,h2,h3⟩:=Oz (ty:=ty) hT hW h hx.1;refine⟨ρ',w',?_,h2,h3⟩;have h1':(Builtin.append_ #[s,u] ty #[cv ρ x,.string (ag l)]).run P w= .ok (cv ρ' v) w':=h1;simp only[aH,cv];simp[builtin,h1']
 ·rename_i s u x y;obtain⟨w',h1,h2,h3⟩:=Wh (ty:=ty) hT hW h;refine⟨ρ,w',?_,h2,h3⟩;simp only[aH];simp[builtin,h1]
 ·rename_i s x;obtain⟨w',h1,h2,h3⟩:=QT (ty:=ty) hT hW h;refine⟨ρ,w',?_,h2,h3⟩;simp only[aH];simp[builtin,h1]
 ·rename_i s;split at h
  ·rename_i hk;obtain⟨i,hi,hk⟩:=fA hk;obtain⟨hu,_⟩:=(hT s i hi).slice hk;obtain⟨rfl,rfl⟩:=zm (zq h);refine⟨ρ,w,?_,Post.refl hW,trivial⟩;simp[aH,cv,builtin,Builtin.cap_,run_underlying hu,goInt]
  ·cases h
 ·rename_i s b' o k n c;split at h
  ·rename_i hk;obtain⟨i,hi,hk⟩:=fA hk;obtain⟨hu,_⟩:=(hT s i hi).slice hk;obtain⟨rfl,rfl⟩:=zm (zq h);refine⟨ρ,w,?_,Post.refl hW,trivial⟩;simp[aH,cv,builtin,Builtin.cap_,run_underlying hu,goInt]
  ·cases h
 ·rename_i s b';split at h
  ·rename_i es clock hk hb;obtain⟨i,hi,hk⟩:=fA hk;have hu:=(hT s i hi).map hk;obtain⟨rfl,rfl⟩:=zm (zq h);have hheap:w.heap[ρ.blk b']? =some (.map (es.map (aI ρ)).toArray clock):=hW.rep b' _ hb;refine⟨ρ,w,?_,Post.refl hW,trivial⟩;simp[aH,cv,builtin,Builtin.len_,run_underlying hu,goInt,Go.MapKept.run_getObj_map hheap]
  ·cases h
 ·obtain⟨rfl,rfl⟩:=zm (zq h);refine⟨ρ,w,?_,Post.refl hW,trivial⟩;have:=Go.Lib.run_unsafeSliceData_nil (P:=P) (w:=w) ats.toArray ty 0 0;simp only[aH,cv];simp[builtin,this]
 ·rename_i b' o k n c;obtain⟨rfl,rfl⟩:=zm (zq h);refine⟨ρ,w,?_,Post.refl hW,hx.1⟩;have:=Go.Lib.run_unsafeSliceData_row (P:=P) (w:=w) ats.toArray ty ⟨ρ.blk b',o,none⟩ n (c+1) zy;simp only[aH,cv];simp[builtin,this]
 ·rename_i b' o k n;split at h
  ·rename_i vs e hb
   cases h1:Nat.ble (k+n) vs.length with
   |false=>rw[h1] at h;cases h
   |true=>
   cases h2:Nat.blt 0 n with
   |false=>rw[h1,h2] at h;cases h
   |true=>
   rw[h1,h2] at h;obtain⟨rfl,rfl⟩:=zm (zq h);have h1:=zk h1;have h2:=aK h2;obtain⟨n',cur,q1,q2,q3,q4,q5,q6⟩:=hW.rep b' _ hb;refine⟨ρ,w,?_,Post.refl hW,hx.1⟩;have:=Go.Lib.run_unsafeSliceData_row (P:=P) (w:=w) ats.toArray ty ⟨ρ.blk b',o,none⟩ n (ρ.cap b' - k) zy;simp only[aH,cv];simp[builtin,this]
  ·cases h
 ·rename_i pt it x n;obtain⟨w',h1,h2,h3⟩:=Pb (it:=it) (ty:=ty) hT hW h;refine⟨ρ,w',?_,h2,h3⟩;have h1':(Builtin.unsafeString_ #[pt,it] ty #[cv ρ x,.int .i64 (Int.ofNat n)]).run P w= .ok (cv ρ v) w':=h1;simp only[aH,cv,builtin,Sem.run_bind];rw[show (Builtin.unsafeString_ [pt,it].toArray ty [cv ρ x,.int .i64 (Int.ofNat n)].toArray).run P w= .ok (cv ρ v) w' from h1']
  rfl
 ·cases h
def aaM (P:Program)(T:bH)(t:TT)(W:AW):Op→Option (AV×AW)
 | .makeSlice s l c=>match gK (ev t l),gK (ev t c) with
   |some l,some c=>Sn T W s l c
   |_,_=>none
 | .makeMap _s none=>some (.map W.nx,W.push (.map [] 0))
 | .makeMap s (some r)=>match BV T s,gK (ev t r) with
   |some (.map _ _),some _=>some (.map W.nx,W.push (.map [] 0))
   |_,_=>none
 | .insert s m k v=>(qB T W s (ev t m) (ev t k) (ev t v)).map fun W'=>(.tuple [],W')
 | .mapUpdate s m k v=>(qB T W s (ev t m) (ev t k) (ev t v)).map fun W'=>(.tuple [],W')
 | .lookup s m k ok=>match Zh T W s (ev t m) (ev t k) ok with
   |some v=>some (v,W)
   |none=>(Ql T W s (ev t m) (ev t k) ok).map fun v=>(v,W)
 | .range s x=>tq T W s (ev t x)
 | .next it str=>Co W str (ev t it)
 | .entry it=>(QJ W (ev t it)).map fun v=>(v,W)
 | .makeInterface s x=>match T.get s with
   |some _=>some (.iface s (ev t x),W)
   |none=>none
 | .index s x ix=>(JX T s (ev t x) (ev t ix)).map fun v=>(v,W)
 | .binOp op s x y _=>match op with
   | .eql=>(Wn T s (ev t x) (ev t y)).map fun b=>(.bool b,W)
   | .neq=>(Wn T s (ev t x) (ev t y)).map fun b=>(.bool (!b),W)
   |_=>none
 | .convert s d x=>(aa0 P T W s d (ev t x)).map fun v=>(v,W)
 | .call c=>match c.callee with
   | .builtin b=>afn T W b c.argTypes.toList (c.args.toList.map (ev t))
   |_=>none
 |_=>none
theorem aaL {P:Program}{T:bH}(hT:aZ P T){w0:World}{ρ:Env}{N:Nat}{t:TT}{a:Act}{W W':AW}{w:World}(ht:aS ρ W.nx N t a)(hW:aJ w0 ρ W w){o:Oper}{v:AV}(h:aaM P T t W o.op=some (v,W')):
 ∃ρ' w',((execOp a.eval o).run P w= .ok (.value (cv ρ' v)) w'∨((execOp a.eval o).run P w= .ok .skip w'∧v= .tuple []))∧Post w0 ρ W w ρ' W' w'∧v.ok W'.nx:=by
 have YV:Post w0 ρ W w (ρ.up W.nx w.heap.size 0) (W.push (.map [] 0)) (w.alloc (.map #[] 0)):=hW.new (c:=0) (kF w _) (zn _) zw (k:=.map [] 0) (fun x hx=>by cases hx) (by
  show _=_;rw[Env.aM];exact World.alloc_heap_new _ _)
 obtain⟨dst,op,type,pos,after,guard⟩:=o;dsimp only at h;unfold aaM at h;split at h
 ·rename_i s l c;split at h
  ·rename_i l' c' hl hc;obtain⟨kl,hl⟩:=bV hl;obtain⟨kc,hc⟩:=bV hc;obtain⟨ρ',w',h1,h2,h3⟩:=Vj (kl:=kl) (kc:=kc) hT hW h;refine⟨ρ',w',.inl ?_,h2,h3⟩;have e1:cv ρ (.int kl (l':Int))= .int kl (l':Int):=rfl;simp only[execOp,ht.eval,hl,hc,cv,Sem.run_bind,h1,Result.andThen_ok,Sem.run_pure]
  ·cases h
 ·rename_i s;obtain⟨rfl,rfl⟩:=zm (zq h);refine⟨_,_,.inl ?_,YV,zS _⟩;simp only[cv,Env.aM];simp[execOp,Instr.makeMap,newObj,nA]
 ·rename_i s r;split at h
  ·rename_i kt et n hk hr;obtain⟨i,hi,hk⟩:=fA hk;have hu:=(hT s i hi).map hk;obtain⟨kk,hr⟩:=bV hr;obtain⟨rfl,rfl⟩:=zm (zq h);refine⟨_,_,.inl ?_,YV,zS _⟩;simp only[cv,Env.aM];simp[execOp,Instr.makeMap,newObj,nA,ht.eval,hr,cv,run_underlying hu,asInt,asIntOf]
  ·cases h
 ·rename_i s m k x;obtain⟨W1,h1,h2⟩:=zi.1 h;obtain⟨rfl,rfl⟩:=zm h2;obtain⟨w',h3,h4⟩:=Bw hT hW h1 (ht.fQ k) (ht.fQ x);refine⟨ρ,w',.inr ⟨?_,rfl⟩,h4,trivial⟩;simp only[execOp,ht.eval,Sem.run_bind,h3,Result.andThen_ok,Sem.run_pure]
 ·rename_i s m k x;obtain⟨W1,h1,h2⟩:=zi.1 h;obtain⟨rfl,rfl⟩:=zm h2;obtain⟨w',h3,h4⟩:=Bw hT hW h1 (ht.fQ k) (ht.fQ x);refine⟨ρ,w',.inr ⟨?_,rfl⟩,h4,trivial⟩;simp only[execOp,ht.eval,Sem.run_bind,h3,Result.andThen_ok,Sem.run_pure]
 ·rename_i s m k ok;split at h
  ·rename_i u h1;obtain⟨rfl,rfl⟩:=zm (zq h);obtain⟨h3,h4⟩:=Vp hT hW h1;refine⟨ρ,w,.inl ?_,Post.refl hW,h4⟩;simp only[execOp,ht.eval,Sem.run_bind,h3,Result.andThen_ok,Sem.run_pure]
  ·obtain⟨u,h1,h2⟩:=zi.1 h;obtain⟨rfl,rfl⟩:=zm h2;obtain⟨h3,h4⟩:=Qk hT hW h1;refine⟨ρ,w,.inl ?_,Post.refl hW,h4⟩;simp only[execOp,ht.eval,Sem.run_bind,h3,Result.andThen_ok,Sem.run_pure]
 ·rename_i s x;obtain⟨ρ',w',h1,h2,h3⟩:=Jr hT hW h;refine⟨ρ',w',.inl ?_,h2,h3⟩;simp only[execOp,ht.eval,Sem.run_bind,h1,Result.andThen_ok,Sem.run_pure]
 ·rename_i it str;obtain⟨w',h1,h2,h3⟩:=MX (P:=P) (ty:=type) hW h;refine⟨ρ,w',.inl ?_,h2,h3⟩;simp only[execOp,ht.eval,Sem.run_bind,h1,Result.andThen_ok,Sem.run_pure]
 ·rename_i it;obtain⟨u,hu,h2⟩:=zi.1 h;obtain⟨rfl,rfl⟩:=zm h2;obtain⟨h1,h3⟩:=QI (P:=P) hW hu;refine⟨ρ,w,.inl ?_,Post.refl hW,h3⟩;simp only[execOp,ht.eval,Sem.run_bind,h1,Result.andThen_ok,Sem.run_pure]
 ·rename_i s x;split at h
  ·rename_i i hi;obtain⟨rfl,rfl⟩:=zm (zq h);obtain⟨d,hu,hd⟩:=(hT s i hi).YP;refine⟨ρ,w,.inl ?_,Post.refl hW,ht.fQ x⟩;simp only[execOp,ht.eval,Instr.makeInterface,Sem.run_bind,run_underlying hu,Result.andThen_ok,cv]
   cases d<;>first|rfl|exact (hd _ rfl).elim
  ·cases h
 ·rename_i s x ix;obtain⟨u,h1,h2⟩:=zi.1 h;obtain⟨rfl,rfl⟩:=zm h2;obtain⟨h3,h4⟩:=Ny hT h1 ρ (ht.fQ x) w;refine⟨ρ,w,.inl ?_,Post.refl hW,h4⟩;simp only[execOp,ht.eval,Sem.run_bind,h3,Result.andThen_ok,Sem.run_pure]
 ·rename_i op s x y ty;split at h
  ·obtain⟨b,hb,h2⟩:=zi.1 h;obtain⟨rfl,rfl⟩:=zm h2;exact⟨ρ,w,.inl (Tx hT (op:=.eql) ht hb (.inl ⟨rfl,rfl⟩)),Post.refl hW,trivial⟩
  ·obtain⟨b,hb,h2⟩:=zi.1 h;obtain⟨rfl,rfl⟩:=zm h2;exact⟨ρ,w,.inl (Tx hT (op:=.neq) ht hb (.inr ⟨rfl,rfl⟩)),Post.refl hW,trivial⟩
  ·cases h
 ·rename_i s d x;obtain⟨u,h1,h2⟩:=zi.1 h;obtain⟨rfl,rfl⟩:=zm h2;obtain⟨h3,h4⟩:=Wj hT hW h1 (ht.fQ x);refine⟨ρ,w,.inl ?_,Post.refl hW,h4⟩;simp only[execOp,ht.eval,Sem.run_bind,h3,Result.andThen_ok,Sem.run_pure]
 ·rename_i c;obtain⟨callee,args,ats⟩:=c;dsimp only at h;split at h
  ·rename_i b
   have hxs:oks W.nx (args.toList.map (ev t)):=(bQ _ _).2 fun v hv=>by
    obtain⟨x,_,rfl⟩:=zX.1 hv;exact ht.fQ x
   obtain⟨ρ',w',h1,h2,h3⟩:=abl hT hW h hxs type (args.map fun | .const _=>true|_=>false)
   refine⟨ρ',w',.inl ?_,h2,h3⟩
   have e1:args.map a.eval=(aH ρ (args.toList.map (ev t))).toArray:=by
    apply yE;simp[bz,ht.eval]
   simp only[execOp,resolve,Sem.run_bind,Sem.run_pure,Result.andThen_ok,invoke,e1];exact h1
  ·cases h
 ·cases h
theorem ui {T:bH}{W W':AW}{s:Nat}{m k v:AV}(h:qB T W s m k v=some W'):∀b,b∈W.az→b∈W'.az:=by
 unfold qB at h;split at h
 case h_2=>cases h
 split at h
 case h_2=>cases h
 split at h
 case h_2=>cases h
 rename_i ik hik
 cases hko:keyOf ik.kd k with
 |false=>rw[hko] at h;cases h
 |true=>
 rw[hko] at h;simp only[cond_true] at h
 repeat' split at h
 all_goals first
  |(obtain rfl:=zq h;exact fun b hb=>(dJ _ _ _).2 (.inr hb))
  |cases h
theorem V5 {P:Program}{T:bH}{t:TT}{W W':AW}{o:Op}{v:AV}(h:aaM P T t W o=some (v,W')):∀b,b∈W.az→b∈W'.az:=by
 have fin:∀{v':AV} {W1:AW},some (v',W1)=some (v,W')→(∀b,b∈W.az→b∈W1.az)→∀b,b∈W.az→b∈W'.az:=fun h hb=>by
  obtain⟨_,rfl⟩:=zm (zq h);exact hb
 have add:∀(c:Nat) b,b∈W.az→b∈addN c W.az:=fun c b hb=>(dJ _ _ _).2 (.inr hb)
 unfold aaM at h;split at h
 ·split at h
  ·unfold Sn at h
   repeat' split at h
   all_goals first
    |exact fin h fun b hb=>hb
    |cases h
  ·cases h
 ·exact fin h fun b hb=>hb
 ·split at h
  ·exact fin h fun b hb=>hb
  ·cases h
 ·obtain⟨W1,h1,h2⟩:=zi.1 h;obtain⟨rfl,rfl⟩:=zm h2;exact ui h1
 ·obtain⟨W1,h1,h2⟩:=zi.1 h;obtain⟨rfl,rfl⟩:=zm h2;exact ui h1
 ·split at h
  ·exact fin h fun b hb=>hb
  ·obtain⟨W1,h1,h2⟩:=zi.1 h;obtain⟨rfl,rfl⟩:=zm h2;exact fun b hb=>hb
 ·unfold tq at h
  repeat' split at h
  all_goals first
   |exact fin h fun b hb=>hb
   |cases h
 ·unfold Co at h;simp only[Bool.cond_eq_ite] at h
  repeat' split at h
  all_goals first
   |exact fin h fun b hb=>hb
   |exact fin h (add _)
   |cases h
 ·obtain⟨W1,h1,h2⟩:=zi.1 h;obtain⟨rfl,rfl⟩:=zm h2;exact fun b hb=>hb
 ·split at h
  ·exact fin h fun b hb=>hb
  ·cases h
 ·obtain⟨W1,h1,h2⟩:=zi.1 h;obtain⟨rfl,rfl⟩:=zm h2;exact fun b hb=>hb
 ·split at h
  ·obtain⟨W1,h1,h2⟩:=zi.1 h;obtain⟨rfl,rfl⟩:=zm h2;exact fun b hb=>hb
  ·obtain⟨W1,h1,h2⟩:=zi.1 h;obtain⟨rfl,rfl⟩:=zm h2;exact fun b hb=>hb
  ·cases h
 ·obtain⟨W1,h1,h2⟩:=zi.1 h;obtain⟨rfl,rfl⟩:=zm h2;exact fun b hb=>hb
 ·split at h
  ·unfold afn at h;split at h
   ·unfold Cy at h
    repeat' split at h
    all_goals first
     |exact fin h fun b hb=>hb
     |exact fin h (add _)
     |cases h
   ·unfold Tw at h;dsimp only at h;split at h
    case h_2=>cases h
    split at h
    case h_2=>cases h
    split at h
    ·split at h
     ·rename_i m news _ _;generalize (if Nat.ble m _ then m else _)=k at h
      repeat' split at h
      all_goals first
       |exact fin h fun b hb=>hb
       |exact fin h (add _)
       |cases h
     ·exact fin h fun b hb=>hb
     ·cases h
    ·split at h
     ·exact fin h fun b hb=>hb
     ·cases h
    ·split at h
     ·exact fin h fun b hb=>hb
     ·cases h
    ·cases h
   ·unfold Kz at h;dsimp only at h
    repeat' split at h
    all_goals first
     |exact fin h (add _)
     |cases h
   ·split at h
    ·exact fin h fun b hb=>hb
    ·cases h
   ·split at h
    ·exact fin h fun b hb=>hb
    ·cases h
   ·split at h
    ·exact fin h fun b hb=>hb
    ·cases h
   ·exact fin h fun b hb=>hb
   ·exact fin h fun b hb=>hb
   ·simp only[Bool.cond_eq_ite] at h
    repeat' split at h
    all_goals first
     |exact fin h fun b hb=>hb
     |cases h
   ·unfold IZ at h;simp only[Bool.cond_eq_ite] at h
    repeat' split at h
    all_goals first
     |exact fin h fun b hb=>hb
     |exact fin h (add _)
     |cases h
   ·cases h
  ·cases h
 ·cases h
def fw (ro:Option Nat):Fence:={ Fence.wide with round:=ro}
theorem Ew {ro:Option Nat}{n:Nat}{P:Program}{g:Nat}{args:Array Value}{w:World}{R:Ending→World→Prop}(h:Calls P g args w R):CallsIn (fw ro) n P g args w R:=
 (ym (n:=n)).2 h
def ai (P:Program)(call:aj):Prop:=∀g args W v W',call g args W=some (v,W')→
 (∃fn,P.funcs[g]? =some fn∧(fn.name == "runtime.NumGoroutine")=false∧fn.body.isSome=true)∧(∀b,b∈W.az→b∈W'.az)∧
 ∀w0 ρ w,oks W.nx args→aJ w0 ρ W w→Calls P g (aH ρ args).toArray w fun e w'=>∃ρ',e= .returned (cv ρ' v)∧Post w0 ρ W w ρ' W' w'∧v.ok W'.nx
def dU (P:Program)(ext:aj):Prop:=∀g args W v W',ext g args W=some (v,W')→(∀b,b∈W.az→b∈W'.az)∧
 ∀w0 ρ w,oks W.nx args→aJ w0 ρ W w→∃ρ' w',(callFunc g (aH ρ args).toArray).run P w= .ok (.value (cv ρ' v)) w'∧Post w0 ρ W w ρ' W' w'∧v.ok W'.nx
abbrev fH:=Nat→List AV→AW→Option (AV×AW)
def fF (P:Program)(y:fH):Prop:=∀b args W v W',y b args W=some (v,W')→(∀b,b∈W.az→b∈W'.az)∧
 ∀w0 ρ w,oks W.nx args→aJ w0 ρ W w→∃f tmps asqz bd,(Instr.yield (ρ.blk b) (aH ρ args).toArray).run P w= .ok (.round (ρ.blk b) f tmps asqz bd) w∧
  RoundIn Fence.wide 0 P (ρ.blk b) f tmps asqz bd w fun e w'=>∃ρ',e= .returned (cv ρ' v)∧Post w0 ρ W w ρ' W' w'∧v.ok W'.nx
def Tz (call ext:aj)(t:TT)(W:AW):Op→Option (AV×AW)
 | .call { callee:=.value f,args,..}=>match ev t f with
   | .fn (.func g) l c=>match call g (l++args.toList.map (ev t)++c) W with
     |some r=>some r
     |none=>ext g (l++args.toList.map (ev t)++c) W
   |_=>none
 |_=>none
def q9:Op→Nat
 | .move _=>0 | .assign _=>0 | .pick .. =>0 | .fieldAddr .. =>0 | .indexAddr .. =>0 | .extract .. =>0 | .field .. =>0 | .makeFunc .. =>0 | .nilCheck _=>0
 | .load .. =>1 | .store .. =>1 | .alloc _=>1 | .box .. =>1 | .buildSlice .. =>1
 | .build .. =>2
 | .call c=>match c.callee with
   | .value _=>3
   |_=>4
 |_=>4
def uY (P:Program)(T:bH)(call ext:aj)(t:TT)(W:AW)(o:Oper):Option (AV×AW):=
 match q9 o.op with
 |0=>match qW T t o.op with
  |some v=>some (v,W)
  |none=>none
 |1=>si T t W o.op
 |2=>Ku T t W o.op
 |3=>match Tz call ext t W o.op with
  |some r=>some r
  |none=>(EL P t o).map (·,W)
 |_=>match XE T t o.op with
  |some v=>some (v,W)
  |none=>match Ku T t W o.op with
   |some r=>some r
   |none=>match si T t W o.op with
    |some r=>some r
    |none=>match aaM P T t W o.op with
     |some r=>some r
     |none=>(EL P t o).map (·,W)
def Does (P:Program)(a:Act)(o:Oper)(w0:World)(ρ:Env)(W:AW)(w:World)(v:AV)(W':AW):Prop:=
 (∃ρ' w',((execOp a.eval o).run P w= .ok (.value (cv ρ' v)) w'∨((execOp a.eval o).run P w= .ok .skip w'∧v= .tuple []))∧Post w0 ρ W w ρ' W' w'∧v.ok W'.nx)∨
 (∃g args,(execOp a.eval o).run P w= .ok (.enter g args) w∧Calls P g args w fun e w'=>∃ρ',e= .returned (cv ρ' v)∧Post w0 ρ W w ρ' W' w'∧v.ok W'.nx)
section
variable {P:Program} {T:bH} {call ext:aj}
theorem Does.wp {a:Act}{o:Oper}{w0:World}{ρ:Env}{W W':AW}{w:World}{v:AV}(h:Does P a o w0 ρ W w v W'){K:Act→World→Prop}{Q:Exit→Act→World→Prop}
 (hk:∀ρ' w',Post w0 ρ W w ρ' W' w'→v.ok W'.nx→K (a.put o.dst (cv ρ' v)) w'):o.wp P a w K Q:=by
 unfold Oper.wp;rcases h with⟨ρ',w',h1,h2,h3⟩|⟨g,args,h1,h2⟩
 ·rcases h1 with h1|⟨h1,rfl⟩
  ·rw[h1];exact hk ρ' w' h2 h3
  ·rw[h1];exact hk ρ' w' h2 h3
 ·rw[h1,Oper.upon_enter];refine h2.mono ?_;rintro e w' ⟨ρ',rfl,h3,h4⟩;exact hk ρ' w' h3 h4
theorem Does.wpIn {a:Act}{o:Oper}{w0:World}{ρ:Env}{W W':AW}{w:World}{v:AV}(h:Does P a o w0 ρ W w v W')(hd:∀c,o.op≠ .defer c){ro:Option Nat}{n:Nat}{K:Act→World→Prop}{Q:Exit→Act→World→Prop}
 (hk:∀ρ' w',Post w0 ρ W w ρ' W' w'→v.ok W'.nx→K (a.put o.dst (cv ρ' v)) w'):o.wpIn (fw ro) n P a w K Q:=by
 refine⟨fun _ _=>trivial,?_⟩
 rw[xO _ _ _ hd];rcases h with⟨ρ',w',h1,h2,h3⟩|⟨g,args,h1,h2⟩
 ·rcases h1 with h1|⟨h1,rfl⟩
  ·rw[h1];exact hk ρ' w' h2 h3
  ·rw[h1];exact hk ρ' w' h2 h3
 ·rw[h1,Oper.uponIn_enter];refine⟨fun h=>(by cases h),Ew (h2.mono ?_)⟩
  rintro e w' ⟨ρ',rfl,h3,h4⟩;exact hk ρ' w' h3 h4
theorem EY {ρ:Env}{n N:Nat}{t:TT}{a:Act}(ht:aS ρ n N t a){f:Operand}{g:Nat}{l c:List AV}(hf:ev t f= .fn (.func g) l c)(args:Array Operand)(ats:Array TypeId){dst:Option Tmp}{type:TypeId}{pos:String}{after:Array Edge}{guard:Option (Nat×Bool)}(w:World):
 (execOp a.eval (⟨dst,.call { callee:=.value f,args,argTypes:=ats},type,pos,after,guard⟩:Oper)).run P w=(callFunc g (aH ρ (l++args.toList.map (ev t)++c)).toArray).run P w:=by
 have e1:(aH ρ (l++args.toList.map (ev t)++c)).toArray=(aH ρ l).toArray++args.map a.eval++(aH ρ c).toArray:=by
  apply yE;simp[bz,ht.eval]
 simp only[execOp,resolve,ht.eval,hf,cv,Deferred.ofValue,Sem.run_bind,Sem.run_pure,Result.andThen_ok,invoke,e1]
theorem afs {ρ:Env}{n N:Nat}{t:TT}{a:Act}(ht:aS ρ n N t a){f:Operand}{fn:Fn}{l c:List AV}(hf:ev t f= .fn fn l c)(args:Array Operand):oks n (l++args.toList.map (ev t)++c):=by
 have hfo:=ht.fQ f;rw[hf] at hfo
 exact bC (bC hfo.1 ((bQ _ _).2 fun v hv=>by
  obtain⟨x,_,rfl⟩:=zX.1 hv;exact ht.fQ x)) hfo.2
theorem QW (hC:ai P call)(hX:dU P ext){w0:World}{ρ:Env}{N:Nat}{t:TT}{a:Act}{W W':AW}{w:World}(ht:aS ρ W.nx N t a)(hW:aJ w0 ρ W w){o:Oper}{v:AV}(hu:Tz call ext t W o.op=some (v,W')):Does P a o w0 ρ W w v W':=by
 obtain⟨dst,op,type,pos,after,guard⟩:=o;dsimp only at hu;unfold Tz at hu;split at hu
 ·rename_i f args ats;split at hu
  ·rename_i g l c hf;have hargs:=afs ht hf args;split at hu
   ·rename_i r hr;obtain rfl:=zq hu;obtain⟨⟨fn,q1,q2,q3⟩,_,hcall⟩:=hC _ _ _ _ _ hr;refine .inr ⟨g,(aH ρ (l++args.toList.map (ev t)++c)).toArray,?_,hcall w0 ρ w hargs hW⟩;have hb:fn.body.isNone=false:=by cases hq:fn.body<;>simp_all
    rw[EY ht hf];simp only[callFunc,Sem.run_bind,Sem.run_pure,Result.andThen_ok,run_program,q1,q2,hb,Bool.false_eq_true,if_false]
   ·obtain⟨_,hx⟩:=hX _ _ _ _ _ hu;obtain⟨ρ',w',h1,h2,h3⟩:=hx w0 ρ w hargs hW;refine .inl ⟨ρ',w',.inl ?_,h2,h3⟩;rw[EY ht hf,h1]
  ·cases hu
 ·cases hu
theorem ig (hT:aZ P T)(hC:ai P call)(hX:dU P ext){w0:World}{ρ:Env}{N:Nat}{t:TT}{a:Act}{W W':AW}{w:World}(ht:aS ρ W.nx N t a)(hW:aJ w0 ρ W w){o:Oper}{v:AV}(h:uY P T call ext t W o=some (v,W')):Does P a o w0 ρ W w v W':=by
 unfold uY at h
 have fall:(EL P t o).map (·,W)=some (v,W')→Does P a o w0 ρ W w v W':=fun h=>by
  obtain⟨u,hu,h2⟩:=zi.1 h;obtain⟨rfl,rfl⟩:=zm h2;obtain⟨h1,h2⟩:=AQ hu ht w;exact .inl ⟨ρ,w,.inl h1,Post.refl hW,h2⟩
 split at h
 ·split at h
  ·rename_i u hu;obtain⟨rfl,rfl⟩:=zm (zq h);obtain⟨h1,h2⟩:=mh hT ht hu w;exact .inl ⟨ρ,w,.inl h1,Post.refl hW,h2⟩
  ·cases h
 ·obtain⟨ρ',w',h1,h2,h3⟩:=uH hT ht hW h;exact .inl ⟨ρ',w',h1,h2,h3⟩
 ·obtain⟨ρ',h1,h2,h3⟩:=ER hT ht hW h;exact .inl ⟨ρ',w,.inl (h1 w),h2,h3⟩
 ·split at h
  ·rename_i r hu;obtain rfl:=zq h;exact QW hC hX ht hW hu
  ·exact fall h
 split at h
 ·rename_i u hu;obtain⟨rfl,rfl⟩:=zm (zq h);obtain⟨h1,h2⟩:=Di hT ht hu w;exact .inl ⟨ρ,w,.inl h1,Post.refl hW,h2⟩
 split at h
 ·rename_i r hu;obtain rfl:=zq h;obtain⟨ρ',h1,h2,h3⟩:=ER hT ht hW hu;exact .inl ⟨ρ',w,.inl (h1 w),h2,h3⟩
 split at h
 ·rename_i r hu;obtain rfl:=zq h;obtain⟨ρ',w',h1,h2,h3⟩:=uH hT ht hW hu;exact .inl ⟨ρ',w',h1,h2,h3⟩
 split at h
 ·rename_i r hu;obtain rfl:=zq h;obtain⟨ρ',w',h1,h2,h3⟩:=aaL hT ht hW hu;exact .inl ⟨ρ',w',h1,h2,h3⟩
 ·exact fall h
end
section
variable {P:Program} {T:bH} {call ext:aj}
theorem L6 {W W':AW}{s:Nat}{x v:AV}{lo hi:Option AV}(h:rF T W s x lo hi=some (v,W')):W'.az=W.az:=by
 unfold rF at h
 repeat' split at h
 all_goals first
  |(obtain⟨_,rfl⟩:=zm (zq h);rfl)
  |cases h
theorem Je {W W':AW}{s:Nat}{x hi mx v:AV}{lo:Option AV}(h:nk T W s x lo hi mx=some (v,W')):W'.az=W.az:=by
 unfold nk at h
 repeat' split at h
 all_goals first
  |(obtain⟨_,rfl⟩:=zm (zq h);rfl)
  |cases h
theorem A7 {t:TT}{W W':AW}{o:Op}{v:AV}(h:Ku T t W o=some (v,W')):W'.az=W.az:=by
 unfold Ku at h
 repeat' split at h
 all_goals first
  |exact L6 h
  |exact Je h
  |(obtain⟨_,_,h2⟩:=zi.1 h;obtain⟨_,rfl⟩:=zm h2;rfl)
  |(obtain⟨_,rfl⟩:=zm (zq h);rfl)
  |cases h
theorem KM {W W':AW}{s:Nat}{x y v:AV}(h:uQ T W s x y=some (v,W')):∀b,b∈W.az→b∈W'.az:=by
 unfold uQ at h
 repeat' split at h
 all_goals first
  |(obtain⟨_,rfl⟩:=zm (zq h);exact fun b hb=>hb)
  |(obtain⟨_,rfl⟩:=zm (zq h);exact fun b hb=>(dJ _ _ _).2 (.inr hb))
  |cases h
theorem Ij {t:TT}{W W':AW}{o:Op}{v:AV}(h:si T t W o=some (v,W')):∀b,b∈W.az→b∈W'.az:=by
 unfold si at h
 repeat' split at h
 all_goals first
  |exact KM h
  |(obtain⟨_,_,h2⟩:=zi.1 h;obtain⟨_,rfl⟩:=zm h2;exact fun b hb=>hb)
  |(obtain⟨_,_,h2⟩:=zi.1 h;obtain⟨_,rfl⟩:=zm h2;exact fun b hb=>(dJ _ _ _).2 (.inr hb))
  |(obtain⟨_,rfl⟩:=zm (zq h);exact fun b hb=>hb)
  |cases h
theorem MR (hC:ai P call)(hX:dU P ext){t:TT}{W W':AW}{o:Oper}{v:AV}(h:uY P T call ext t W o=some (v,W')):∀b,b∈W.az→b∈W'.az:=by
 unfold uY at h
 have fall:(EL P t o).map (·,W)=some (v,W')→∀b,b∈W.az→b∈W'.az:=fun h=>by
  obtain⟨_,_,h2⟩:=zi.1 h;obtain⟨_,rfl⟩:=zm h2;exact fun b hb=>hb
 split at h
 ·split at h
  ·obtain⟨_,rfl⟩:=zm (zq h);exact fun b hb=>hb
  ·cases h
 ·exact Ij h
 ·intro b hb;rw[A7 h];exact hb
 ·split at h
  ·rename_i r hr;obtain rfl:=zq h;unfold Tz at hr
   repeat' split at hr
   ·rename_i r' hr';obtain rfl:=zq hr;exact (hC _ _ _ _ _ hr').2.1
   ·exact (hX _ _ _ _ _ hr).1
   ·cases hr
   ·cases hr
  ·exact fall h
 split at h
 ·obtain⟨_,rfl⟩:=zm (zq h);exact fun b hb=>hb
 split at h
 ·rename_i r hr;obtain rfl:=zq h;intro b hb;rw[A7 hr];exact hb
 split at h
 ·rename_i r hr;obtain rfl:=zq h;exact Ij hr
 split at h
 ·rename_i r hr;obtain rfl:=zq h;exact V5 hr
 ·exact fall h
end
def CV (N:Nat)(t:TT)(ops:List Oper)(j:Nat):Option Bool:=
 match (ops[j]?).bind (·.dst) with
 |some d=>if Nat.blt d N then (match dZ d t with | .bool b=>some b | .raw (.bool b)=>some b|_=>none) else none
 |none=>none
theorem Lx {ρ:Env}{n N:Nat}{t:TT}{a:Act}(h:aS ρ n N t a)(ops:Array Oper)(j:Nat):yielded ops a.tmps j=CV N t ops.toList j:=by
 unfold yielded CV;rw[xZ]
 cases (ops[j]?).bind (·.dst) with
 |none=>rfl
 |some d=>
  simp only[Option.bind_some];have hg:=h.get d;by_cases hd:d < N
  ·have hb:Nat.blt d N=true:=by simpa [Nat.blt_eq] using hd
   rw[zW hb]
   have e1:a.tmps[d]? =some (cv ρ (dZ d t)):=by
    rw[← hg,xN (by rw[h.size];exact hd)]
    simp[Array.getD,h.size,hd]
   rw[e1]
   cases dZ d t with
   |raw v=>cases v<;>simp[cv]
   |slice b o k m c=>cases c<;>simp[cv]
   |_=>simp[cv]
  ·have hb:¬Nat.blt d N=true:=by simpa [Nat.blt_eq] using hd
   have e2:a.tmps[d]? =none:=xg (by rw[h.size];exact Nat.le_of_not_lt hd)
   rw[za hb,e2]
def fM (N:Nat)(t:TT)(ops:List Oper)(o:Oper):Bool:=
 match o.guard with
 |none=>true
 |some (j,want)=>CV N t ops j == some want
theorem fK {ρ:Env}{n N:Nat}{t:TT}{a:Act}(h:aS ρ n N t a)(ops:Array Oper)(o:Oper):Region.wanted o (yielded ops a.tmps)=fM N t ops.toList o:=by
 unfold Region.wanted fM
 cases o.guard with
 |none=>rfl
 |some x=>
  obtain⟨j,want⟩:=x;simp only[Lx h]
def j4 (P:Program)(T:bH)(call ext:aj)(yl:fH)(ro:Option Nat)(N:Nat)(t:TT)(W:AW)(o:Oper):Option (AV×TT×AW):=
 match o.op with
 | .defer { callee:=.value f,args,..}=>match ro,ev t f with
   |none,.fn (.func g) l c=>
    cond (Nat.blt N 1048575) (match dZ N t with
     | .uK ds=>some (.tuple [],TT.put 20 t N (.uK (.fn (.func g) (l++args.toList.map (ev t)) c::ds)),W)
     | .tuple []=>some (.tuple [],TT.put 20 t N (.uK [.fn (.func g) (l++args.toList.map (ev t)) c]),W)
     |_=>none) none
   |_,_=>none
 | .defer _=>none
 | .call { callee:=.value f,args,argTypes:=_}=>match ev t f with
   | .Bi b=>(yl b (args.toList.map (ev t)) W).map fun r=>(r.1,t,r.2)
   |_=>(uY P T call ext t W o).map fun r=>(r.1,t,r.2)
 |_=>(uY P T call ext t W o).map fun r=>(r.1,t,r.2)
def XH (P:Program)(T:bH)(call ext:aj)(yl:fH)(ro:Option Nat)(N:Nat)(t:TT)(W:AW)(o:Oper):Option (AV×TT×AW):=
 match o.op with
 | .move x=>some (ev t x,t,W)
 | .assign x=>some (ev t x,t,W)
 | .load e x=>match uj T W.bl e (ev t x) with
   |some v=>some (v,t,W)
   |none=>j4 P T call ext yl ro N t W o
 | .extract x i=>match ev t x with
   | .tuple l=>match l[i]? with
     |some v=>some (v,t,W)
     |none=>none
   |_=>none
 | .nilCheck x=>match ev t x with
   | .ptr b o=>some (.ptr b o,t,W)
   |_=>j4 P T call ext yl ro N t W o
 | .binOp op _ x y _=>match ev t x,ev t y with
   | .int k (.ofNat a),.int k' (.ofNat b)=>match cond (ZA k k') (JV op k a b) none with
     |some v=>some (v,t,W)
     |none=>j4 P T call ext yl ro N t W o
   |_,_=>j4 P T call ext yl ro N t W o
 | .store e x y=>match Ja T W.bl e (ev t y) (ev t x) with
   |some r=>some (.tuple [],t,⟨W.nx,ib r.1 r.2 W.bl,addN r.1 W.az,W.gl⟩)
   |none=>none
 |_=>j4 P T call ext yl ro N t W o
theorem XG {P:Program}{T:bH}{call ext:aj}{yl:fH}{ro:Option Nat}{N:Nat}{t:TT}{W:AW}{o:Oper}{r:AV×TT×AW}(h:XH P T call ext yl ro N t W o=some r):j4 P T call ext yl ro N t W o=some r:=by
 unfold XH at h;split at h
 ·rename_i x hop;unfold j4 uY;simp only[hop,q9,qW];exact h
 ·rename_i x hop;unfold j4 uY;simp only[hop,q9,qW];exact h
 ·rename_i e x hop;split at h
  ·rename_i v hv;unfold j4 uY;simp only[hop,q9,si,hv];exact h
  ·exact h
 ·rename_i x i hop;split at h
  ·rename_i l hx;split at h
   ·rename_i v hv;unfold j4 uY;simp only[hop,q9,qW,hx,hv];exact h
   ·cases h
  ·cases h
 ·rename_i x hop;split at h
  ·rename_i b o' hx;unfold j4 uY;simp only[hop,q9,qW,hx];exact h
  ·exact h
 ·rename_i op s x y ty hop;split at h
  ·rename_i k a k' b hx hy;split at h
   ·rename_i v hv;unfold j4 uY;simp only[hop,q9,XE,hx,hy,hv];exact h
   ·exact h
  ·exact h
 ·rename_i e x y hop;split at h
  ·rename_i r' hr;unfold j4 uY;simp only[hop,q9,si,hr];exact h
  ·cases h
 ·exact h
def UZ (P:Program)(T:bH)(call ext:aj)(yl:fH)(ro:Option Nat)(N:Nat)(all:List Oper):List Oper→TT→AW→Option (TT×AW)
 |[],t,W=>some (t,W)
 |o::rest,t,W=>
  cond (mJ N o.dst)
   (cond (fM N t all o) (match XH P T call ext yl ro N t W o with
     |some (v,t',W')=>UZ P T call ext yl ro N all rest (dY o.dst v t') W'
     |none=>none)
   (UZ P T call ext yl ro N all rest (dY o.dst (.tuple []) t) W)) none
theorem PQ {ρ ρ':Env}{n:Nat}(he:Ext n ρ ρ'){ro:Option Nat}(hr:∀b,ro=some b→b < n):ro.map ρ'.blk=ro.map ρ.blk:=by
 cases ro with
 |none=>rfl
 |some b=>rw[yN,yN,he.blk b (hr b rfl)]
theorem aS.defer {ρ:Env}{n N:Nat}{t:TT}{a:Act}(h:aS ρ n N t a)(hN:N < 1048575){d:AV}{ds:List AV}(hd:d.ok n)(hds:BL ρ (dZ N t)=ds.map (uL ρ))(ho:oks n ds):
 aS ρ n N (TT.put 20 t N (.uK (d::ds))) { a with defers:=uL ρ d::a.defers}:=by
 have e:=l9 hN t (.uK (d::ds))
 have hN0:a.tmps.getD N undef=undef:=by
  simp[Array.getD,h.size]
 refine⟨h.size,fun j=>?_,fun j=>?_,?_⟩
 ·rw[e];by_cases hj:N=j
  ·subst hj;rw[zW rfl,hN0];rfl
  ·rw[za hj];exact h.get j
 ·rw[e];split
  ·exact⟨hd,ho⟩
  ·exact h.ok j
 ·rw[e,zW rfl,h.defers,hds];rfl
theorem XI {P:Program}{T:bH}{call ext:aj}{yl:fH}(hT:aZ P T)(hC:ai P call)(hX:dU P ext)(hY:fF P yl){w0:World}{ro:Option Nat}{N:Nat}{t t':TT}{W W':AW}{ρ:Env}{a:Act}{w:World}{o:Oper}{v:AV}
 (h:j4 P T call ext yl ro N t W o=some (v,t',W')) (ht:aS ρ W.nx N t a) (hW:aJ w0 ρ W w) {K:Act→World→Prop} {Q:Exit→Act→World→Prop}
 (hk:∀ρ' a' w',Post w0 ρ W w ρ' W' w'→aS ρ' W'.nx N t' a'→v.ok W'.nx→K (a'.put o.dst (cv ρ' v)) w'):o.wpIn (fw (ro.map ρ.blk)) 0 P a w K Q:=by
 have plain:(∀c,o.op≠ .defer c)→(uY P T call ext t W o).map (fun r=>(r.1,t,r.2))=some (v,t',W')→o.wpIn (fw (ro.map ρ.blk)) 0 P a w K Q:=fun hd h=>by
  obtain⟨r,hr,h2⟩:=zi.1 h;simp only[Prod.mk.injEq] at h2;obtain⟨rfl,rfl,rfl⟩:=h2;exact (ig hT hC hX ht hW (v:=r.1) (W':=r.2) hr).wpIn hd fun ρ' w' hp hv=>hk ρ' a w' hp (ht.mono hp.ext hp.nx) hv
 unfold j4 at h;split at h
 ·rename_i f args ats hop;split at h
  ·rename_i g l c hf
   cases hN:Nat.blt N 1048575 with
   |false=>rw[hN] at h;cases h
   |true=>
    rw[hN] at h;simp only[cond_true] at h;have hN:=aK hN;have hfo:=ht.fQ f;rw[hf] at hfo
    have hdo:(AV.fn (.func g) (l++args.toList.map (ev t)) c).ok W.nx:=⟨bC hfo.1 ((bQ _ _).2 fun v hv=>by
     obtain⟨x,_,rfl⟩:=zX.1 hv;exact ht.fQ x),hfo.2⟩
    have hrun:(o.semAt none a.eval).run P w= .ok (.defer (uL ρ (.fn (.func g) (l++args.toList.map (ev t)) c))) w:=by
     obtain⟨dst,op,type,pos,after,guard⟩:=o;dsimp only at hop;subst hop
     have e1:(aH ρ (l++args.toList.map (ev t))).toArray=(aH ρ l).toArray++args.map a.eval:=by
      apply yE;simp[bz,ht.eval]
     simp only[Oper.semAt_none,execOp,resolve,ht.eval,hf,cv,Deferred.ofValue,Sem.run_bind,Sem.run_pure,Result.andThen_ok,uL,e1]
    have fin:∀ds,BL ρ (dZ N t)=ds.map (uL ρ)→oks W.nx ds→v= .tuple []→t'=TT.put 20 t N (.uK (.fn (.func g) (l++args.toList.map (ev t)) c::ds))→W'=W→o.wpIn (fw none) 0 P a w K Q:=fun ds h1 h2 h3 h4 h5=>by
     subst h3;subst h4;subst h5;refine⟨fun _ _=>trivial,?_⟩
     show o.uponIn (fw none) 0 P a K Q ((o.semAt none a.eval).run P w);rw[hrun,Oper.uponIn_defer];exact hk ρ { a with defers:=_::a.defers} w (Post.refl hW) (ht.defer hN hdo h1 h2) trivial
    split at h
    ·rename_i ds hds;simp only[Option.some.injEq,Prod.mk.injEq] at h;have ho:=ht.ok N;rw[hds] at ho;exact fin ds (by rw[hds];rfl) ho h.1.symm h.2.1.symm h.2.2.symm
    ·rename_i hds;simp only[Option.some.injEq,Prod.mk.injEq] at h;exact fin [] (by rw[hds];rfl) trivial h.1.symm h.2.1.symm h.2.2.symm
    ·cases h
  ·cases h
 ·cases h
 ·rename_i f args ats hop;split at h
  ·rename_i b hf;obtain⟨r,hr,h2⟩:=zi.1 h;simp only[Prod.mk.injEq] at h2;obtain⟨rfl,rfl,rfl⟩:=h2;obtain⟨_,hy⟩:=hY b _ W r.1 r.2 hr
   have hargs:oks W.nx (args.toList.map (ev t)):=(bQ _ _).2 fun v hv=>by
    obtain⟨x,_,rfl⟩:=zX.1 hv;exact ht.fQ x
   obtain⟨fl,tmps,asqz,bd,h1,h2⟩:=hy w0 ρ w hargs hW;have hd:∀c,o.op≠ .defer c:=fun c e=>by rw[hop] at e;cases e
   refine⟨fun _ _=>trivial,?_⟩
   rw[xO _ _ _ hd]
   have hrun:(execOp a.eval o).run P w= .ok (.round (ρ.blk b) fl tmps asqz bd) w:=by
    obtain⟨dst,op,type,pos,after,guard⟩:=o;dsimp only at hop;subst hop
    have e1:(#[]++Array.map a.eval args)=(aH ρ (args.toList.map (ev t))).toArray:=by
     apply yE;simp[bz,ht.eval]
    simp only[execOp,resolve,ht.eval,hf,cv,Deferred.ofValue,Sem.run_bind,Sem.run_pure,Result.andThen_ok,invoke]
    have e2:(#[]++Array.map (fun x=>cv ρ (ev t x)) args)=(aH ρ (args.toList.map (ev t))).toArray:=by
     apply yE;simp[bz]
    first
     |rw[e1,h1]
     |rw[e2,h1]
     |(simp only[ht.eval] at *;rw[e2,h1])
   rw[hrun,Oper.uponIn_round];refine⟨fun h=>(by cases h),RoundIn.mono (show RoundIn (fw (ro.map ρ.blk)) 0 P (ρ.blk b) fl tmps asqz bd w _ from h2) ?_⟩
   rintro e w' ⟨ρ',rfl,h3,h4⟩;exact hk ρ' a w' h3 (ht.mono h3.ext h3.nx) h4
  ·exact plain (fun c e=>by rw[hop] at e;cases e) h
 ·rename_i auL aqC auK;exact plain (fun c e=>aqC c e) h
section
variable {P:Program} {T:bH} {call ext:aj} {yl:fH}
theorem JB (hT:aZ P T)(hC:ai P call)(hX:dU P ext)(hY:fF P yl){w0:World}{ro:Option Nat}{N:Nat}(ops:Array Oper){Q:Exit→Act→World→Prop}{tf:TT}{Wf:AW}:∀(l:List Oper) {t:TT} {W:AW} {ρ:Env} {a:Act} {w:World},
 (∀b,ro=some b→b < W.nx)→UZ P T call ext yl ro N ops.toList l t W=some (tf,Wf)→aS ρ W.nx N t a→aJ w0 ρ W w→
 (∀ρ' a' w',Post w0 ρ W w ρ' Wf w'→aS ρ' Wf.nx N tf a'→Q .normal a' w')→wpListIn (fw (ro.map ρ.blk)) 0 P ops Q l a w
 |[],t,W,ρ,a,w,_,h,ht,hW,hQ=>by
  simp only[UZ,Option.some.injEq,Prod.mk.injEq] at h;obtain⟨rfl,rfl⟩:=h;exact hQ ρ a w (Post.refl hW) ht
 |o::rest,t,W,ρ,a,w,hr,h,ht,hW,hQ=>by
  simp only[UZ] at h
  cases hd:mJ N o.dst with
  |false=>rw[hd] at h;cases h
  |true=>
  rw[hd] at h;simp only[cond_true] at h;unfold wpListIn;rw[fK ht]
  cases hw:fM N t ops.toList o with
  |true=>
   rw[hw] at h;simp only[cond_true] at h;rw[zW rfl];split at h
   ·rename_i v t' W' hv;refine XI hT hC hX hY (XG hv) ht hW fun ρ' a' w' hp ht' Ca=>?_
    have:=JB hT hC hX hY ops rest (fun b hb=>zZ (hr b hb) hp.nx) h (ht'.put hd Ca) hp.rep fun ry a'' w'' hp' ZQ=>hQ ry a'' w'' (hp.trans hp') ZQ
    rwa [PQ hp.ext hr] at this
   ·cases h
  |false=>
   rw[hw] at h;simp only[cond_false] at h;rw[za zw];exact⟨fun _ _=>trivial,JB hT hC hX hY ops rest hr h (ht.put (v:=.tuple []) hd trivial) hW hQ⟩
end
inductive AX where
 |normal
 |exit (id:Nat)
 |ret
def AX.NV:AX→Exit
 | .normal=>.normal
 | .exit id=>.exit id
 | .ret=>.ret
abbrev afI:=Option (AX×TT×AW)
abbrev IK:=Code→TT→AW→afI
abbrev qc:=List Oper→TT→AW→Option (TT×AW)
def Sc:LoopState→Bool
 | .busy=>false
 |_=>true
def aaJ (t:TT)(b:Nat)(W:AW):afI:=
 match au b W.bl with
 |some (.loop st pend N t' ps asqz bd)=>cond (Sc st) (match pend with
   |none=>some (.normal,t,⟨W.nx,ib b (.loop .exhausted pend N t' ps asqz bd) W.bl,addN b W.az,W.gl⟩)
   |some .ret=>some (.ret,t,⟨W.nx,ib b (.loop .exhausted pend N t' ps asqz bd) W.bl,addN b W.az,W.gl⟩)
   |some (.exit id)=>some (.exit id,t,⟨W.nx,ib b (.loop .exhausted pend N t' ps asqz bd) W.bl,addN b W.az,W.gl⟩)
   |_=>none) none
 |_=>none
def Y7 (N b:Nat)(t:TT):Option TT:=
 cond (Nat.blt N 1048575) (match dZ N t with
  | .uK ds=>some (TT.put 20 t N (.uK (.ptr b 0::ds)))
  | .tuple []=>some (TT.put 20 t N (.uK [.ptr b 0]))
  |_=>none) none
def PX (call:aj)(ro:Option Nat)(N:Nat)(f:Operand)(ps:Array Tmp)(asqz bd:Code)(t:TT)(W:AW):afI:=
 match ev t f with
 | .fn (.func g) l c=>match ro with
   |none=>match Y7 N W.nx t with
    |some t'=>match call g (l++[.Bi (W.nx+1)]++c) ((W.push .Tm).push (.loop .ready none N t ps asqz bd)) with
     |some (_,W')=>aaJ t' (W.nx+1) W'
     |none=>none
    |none=>none
   |some b0=>match au b0 W.bl with
    |some (.loop ..)=>match call g (l++[.Bi W.nx]++c) (W.push (.loop .ready none N t ps asqz bd)) with
     |some (_,W')=>aaJ t W.nx W'
     |none=>none
    |_=>none
 |_=>none
def gD (P:Program)(T:bH)(call ext:aj)(yl:fH)(draw:qc)(loop:IK)(ro:Option Nat)(N:Nat):Code→TT→AW→afI
 | .skip,t,W=>some (.normal,t,W)
 | .region _ ops d,t,W=>match (cond d (draw ops.toList t W) (UZ P T call ext yl ro N ops.toList ops.toList t W)) with
   |some (t',W')=>some (.normal,t',W')
   |none=>none
 | .seq x y,t,W=>match gD P T call ext yl draw loop ro N x t W with
   |some (.normal,t',W')=>gD P T call ext yl draw loop ro N y t' W'
   |r=>r
 | .cond c x y,t,W=>match ev t c with
   | .bool true=>gD P T call ext yl draw loop ro N x t W
   | .bool false=>gD P T call ext yl draw loop ro N y t W
   |_=>none
 | .block id c,t,W=>match gD P T call ext yl draw loop ro N c t W with
   |some (.exit j,t',W')=>cond (Nat.beq j id) (some (.normal,t',W')) (some (.exit j,t',W'))
   |r=>r
 | .loop c,t,W=>loop c t W
 | .exit id,t,W=>some (.exit id,t,W)
 | .ret,t,W=>some (.ret,t,W)
 | .rangeFunc f ps asqz bd,t,W=>PX call ro N f ps asqz bd t W
 |_,_,_=>none
end Ex
