/- Parts of the proof of TopInstructions. -/
import Derived.Test.YtceaodnohnekkaaGreatDoorMZ
import Derived.WalkKit
import Derived.WalkLawsBesides
import Derived.WalkSpells
import Derived.Maps.AppendAt
import Derived.Deep.Slices
import Derived.Deep.AppendLies
import Derived.Deep.Draws
import Derived.Lib.Hide
import Derived.Deep.RegionLaw
import Derived.Deep.MidRow
import Derived.Laws.CopyRow
import Derived.Laws.BitsLemmas
import Derived.Laws.Bits64
import Derived.Laws.BitsAllLaws
import Derived.Laws.MakeOwn
import Derived.Laws.BytesString
import Derived.Lib.AppendStr
import Derived.Lib.UnsafeStr
import Derived.Laws.IdiomCopy
import Derived.MapKept
import Derived.Maps.RangeRun
import Derived.Lib.OthersKept
import Derived.RangeFuncRecord
import Derived.Laws.IdiomRangeMap
import Derived.Laws.RangeString
import Derived.Lib.Builder
import Derived.Scope
import Derived.LoopNIn
import Derived.TacticsIn
import Derived.RecoverIn
namespace Go.Proofs.YtceaodnohnekkaaGreatDoor
open Go.RowKit
theorem add_add (a:Addr)(i j:Nat):(a.add i).add j=a.add (i+j):=Go.Deep.add_add a i j
theorem add_block (a:Addr)(i:Nat):(a.add i).block=a.block:=by unfold Addr.add;split <;> rfl
theorem lt_of_cell {w:World}{a:Addr}{v:Value}(h:w.cell? a=some v):a.block < w.heap.size:=by
 rcases Nat.lt_or_ge a.block w.heap.size with hlt | hge
 ·exact hlt
 ·unfold World.cell? at h
  rw[Array.getElem?_eq_none hge] at h
  cases h
theorem Cx {w:World}{a:Addr}{v:Value}(h:w.cell? a=some v):a.spot=none:=by
 unfold World.cell? at h
 split at h
 ·split at h
  ·cases h
  ·rename_i hs;simpa using hs
 ·cases h
def Rd (w:World)(p:Nat→Prop)(A:Option Addr)(xs:List Value):Prop:=
 xs≠[]→∃ad,A=some ad∧p ad.block∧∀j u,xs[j]? =some u→w.cell? (ad.add j)=some u
section
variable {w w':World} {p q:Nat→Prop} {A:Option Addr} {xs:List Value}
theorem Rd.nil (w:World)(p:Nat→Prop)(A:Option Addr):Rd w p A []:=fun h=>absurd rfl h
theorem Rd.ex (h:Rd w p A xs)(hx:xs≠[]):∃b o,A=some ⟨b,o,none⟩∧p b∧∀j u,xs[j]? =some u→w.cell? ⟨b,o+j,none⟩=some u:=by
 obtain⟨⟨b,o,s⟩,h1,h2,h3⟩:=h hx
 have hc:=h3 0 _ (List.getElem?_eq_getElem (List.length_pos_iff.2 hx))
 have hs:s=none:=by simpa [Addr.add] using Cx hc
 subst hs
 refine⟨b,o,h1,h2,fun j u hu=>?_⟩
 have:=h3 j u hu
 unfold Addr.add at this
 split at this
 ·rename_i h0;subst h0;exact this
 ·exact this
theorem Rd.mono (h:Rd w p A xs)(hpq:∀i,i < w.heap.size→p i→q i):Rd w q A xs:=fun hx=>by
 obtain⟨ad,h1,h2,h3⟩:=h hx
 have hl:0 < xs.length:=List.length_pos_iff.2 hx
 have hc:=h3 0 _ (List.getElem?_eq_getElem hl)
 have:=lt_of_cell hc
 rw[add_block] at this
 exact⟨ad,h1,hpq _ this h2,h3⟩
theorem Rd.keep (h:Rd w p A xs)(hk:∀i,i < w.heap.size→p i→w'.heap[i]? =w.heap[i]?):Rd w' p A xs:=fun hx=>by
 obtain⟨ad,h1,h2,h3⟩:=h hx
 refine⟨ad,h1,h2,fun j u hu=>?_⟩
 have hc:=h3 j u hu
 have hlt:=lt_of_cell hc
 rw[add_block] at hlt
 rw[World.cell?_of_block (w:=w) (by rw[add_block];exact hk _ hlt h2)]
 exact hc
theorem Rd.gz (h:Rd w p A xs)(hpq:∀i,p i→q i):Rd w q A xs:=h.mono fun i _=>hpq i
theorem Rd.below {B:Nat}(h:Rd w p A xs)(hb:Below B w w')(hp:∀i,i < w.heap.size→p i→i < B):Rd w' p A xs:=h.keep fun i h1 h2=>hb.block i (hp i h1 h2)
theorem Rd.after (h:Rd w p A xs)(hb:Below w.heap.size w w'):Rd w' p A xs:=h.keep fun i h1 _=>hb.block i h1
theorem Rd.grown {row:Option Nat}(h:Rd w p A xs)(hg:w.grownBy w' row)(hp:∀i,i < w.heap.size→p i→some i≠row):Rd w' p A xs:=h.keep fun i h1 h2=>hg.block i h1 (hp i h1 h2)
theorem Rd.take (h:Rd w p A xs)(k:Nat):Rd w p A (xs.take k):=fun hx=>by
 obtain⟨ad,h1,h2,h3⟩:=h (fun e=>by subst e;simp at hx)
 refine⟨ad,h1,h2,fun j u hu=>h3 j u ?_⟩
 rw[List.getElem?_take] at hu
 split at hu
 ·exact hu
 ·cases hu
theorem Rd.sI {base n c:Nat}{e:TypeId}{size:Nat}(h:w.ownsRow base e size (.slice A n c) n xs)(hp:∀i,base≤i→i < w.heap.size→p i):Rd w p A xs:=fun hx=>by
 rcases h.2 with⟨_,h0⟩ | ⟨g,cap,cur,hv,hg,hh,_⟩
 ·have:=h.1;rw[h0] at this
  exact absurd (List.eq_nil_of_length_eq_zero (by simpa using this)) hx
 ·injection hv with hA _ _
  subst hA
  have hlt:g < w.heap.size:=by
   rcases Nat.lt_or_ge g w.heap.size with hlt | hge
   ·exact hlt
   ·rw[Array.getElem?_eq_none hge] at hh;cases hh
  exact⟨_,rfl,hp g hg hlt,h.cells (g:=g) rfl⟩
theorem Rd.new (w:World)(cs:Array Value)(t:TypeId)(hp:p w.heap.size):Rd (w.alloc (.cells cs t)) p (some ⟨w.heap.size,0,none⟩) cs.toList:=fun _=>
 ⟨_,rfl,hp,fun j u hu=>by
   have hb:(w.alloc (.cells cs t)).heap[w.heap.size]? =some (.cells cs t (0,0)):=heap_alloc_new w _
   have e:(⟨w.heap.size,0,none⟩:Addr).add j=⟨w.heap.size,j,none⟩:=by
    unfold Addr.add;split
    ·rename_i h;subst h;rfl
    ·simp
   rw[e]
   simp only[World.cell?,hb]
   simpa using hu⟩
end
structure El (P:Program)(t e:TypeId)(z:Value)(size bytes:Nat):Prop where
 under:P.underlying t=some (.slice e)
 info:(P.info? e).map (fun i=>(i.zero,i.size,i.bytes))=some (some z,size,bytes)
 zs:z.cells.size=size
 pos:0 < size
section
variable {P:Program} {t e:TypeId} {z:Value} {size bytes:Nat}
theorem vC (E:El P t e z size bytes)(w:World)(base:Nat)(ty:TypeId)(v:Value)(n:Nat)(xs:List Value)(hown:w.ownsRow base e size v n xs)
 (p:Nat→Prop) (A:Option Addr) (m c:Nat) (news:List Value) (hl:news.length=m * size) (hr:Rd w p A news) (h1:∀u∈news,u.oneCell'=true)
 (h63:n+m≤maxLen) (hbytes:(n+m) * bytes≤140737488355328) (hbase:base≤w.heap.size):
 ∃v' w',(Builtin.append_ #[t,t] ty #[v,.slice A m c]).run P w= .ok v' w'∧w'.ownsRow base e size v' (n+m) (xs++news)∧w.grownBy w' v.ownBlock∧
  (v'.ownBlock=v.ownBlock∨v'.ownBlock=some w.heap.size)∧(m=0→v'=v∧w'=w):=by
 obtain⟨i,hi,hz,hsz,hby⟩:=info_parts E.info
 have atb:=E.pos
 by_cases hm:m=0
 ·subst hm
  have hn:news=[]:=List.eq_nil_of_length_eq_zero (by simpa using hl)
  subst hn
  refine⟨v,w,?_,by simpa using hown,World.grownBy.refl w _,.inl rfl,fun _=>⟨rfl,rfl⟩⟩
  rcases A with _ | ad
  ·rcases hown.2 with⟨rfl,rfl⟩ | ⟨g,cap,cur,rfl,_,_,hnc,_⟩
   ·simp[Builtin.append_,run_underlying E.under,sizeOf,typeInfo,hi,Builtin.lenOf,Builtin.firstCells]
   ·simp[Builtin.append_,run_underlying E.under,sizeOf,typeInfo,hi,Builtin.lenOf,Builtin.firstCells,hnc,storeCells]
  ·rcases hown.2 with⟨rfl,rfl⟩ | ⟨g,cap,cur,rfl,_,_,hnc,_⟩
   ·simp[Builtin.append_,run_underlying E.under,sizeOf,typeInfo,hi,Builtin.lenOf,Builtin.firstCells,loadCells,loadCellsFrom]
   ·simp[Builtin.append_,run_underlying E.under,sizeOf,typeInfo,hi,Builtin.lenOf,Builtin.firstCells,loadCells,loadCellsFrom,hnc,storeCells]
 ·have hx:news≠[]:=fun h=>by
   rw[h] at hl
   have h0:m * size=0:=hl.symm
   rcases Nat.mul_eq_zero.1 h0 with h2 | h2 <;> omega
  obtain⟨ad,rfl,_,hcells⟩:=hr hx
  obtain⟨v',w',hrun,h2,h3,_,h5⟩:=run_append_own_at (P:=P) w base t ty e i z size bytes E.under hi hz hsz hby E.zs atb v n xs hown ad m c news hl hcells h1 h63 hbytes hbase
  exact⟨v',w',hrun,h2,h3,h5,fun h=>absurd h hm⟩
theorem ai3 (E:El P t e z size bytes){w:World}{o:Oper}{a:Act}{K:Act→World→Prop}{Q:Exit→Act→World→Prop}(s x:Operand)
 (ho:o.op= .call { callee:=.builtin .append,args:=#[s,x],argTypes:=#[t,t]})
 (base:Nat) (v:Value) (n:Nat) (xs:List Value) (p:Nat→Prop) (A:Option Addr) (m c:Nat) (news:List Value) (hs:a.eval s=v) (hx:a.eval x= .slice A m c)
 (hown:w.ownsRow base e size v n xs) (hl:news.length=m * size) (hr:Rd w p A news) (h1:∀u∈news,u.oneCell'=true)
 (h63:n+m≤maxLen) (hbytes:(n+m) * bytes≤140737488355328) (hbase:base≤w.heap.size)
 (h:∀v' w',w'.ownsRow base e size v' (n+m) (xs++news)→w.grownBy w' v.ownBlock→(v'.ownBlock=v.ownBlock∨v'.ownBlock=some w.heap.size)→(m=0→v'=v∧w'=w)→K (a.put o.dst v') w'):o.wp P a w K Q:=by
 obtain⟨v',w',hrun,h2,h3,h4,h5⟩:=vC E w base o.type v n xs hown p A m c news hl hr h1 h63 hbytes hbase
 unfold Oper.wp execOp
 simp only[ho,resolve,invoke,builtin,Sem.run_bind,Sem.run_pure,Result.andThen_ok,List.map_toArray,List.map_cons,List.map_nil,hs,hx,hrun]
 exact h v' w' h2 h3 h4 h5
theorem eY (E:El P t e z size bytes){w:World}{ops:Array Oper}{rest:List Oper}{o:Oper}{a:Act}{Q:Exit→Act→World→Prop}(hgd:o.guard=none)(s x:Operand)
 (ho:o.op= .call { callee:=.builtin .append,args:=#[s,x],argTypes:=#[t,t]})
 (base:Nat) (v:Value) (n:Nat) (xs:List Value) (p:Nat→Prop) (A:Option Addr) (m c:Nat) (news:List Value) (hs:a.eval s=v) (hx:a.eval x= .slice A m c)
 (hown:w.ownsRow base e size v n xs) (hl:news.length=m * size) (hr:Rd w p A news) (h1:∀u∈news,u.oneCell'=true)
 (h63:n+m≤maxLen) (hbytes:(n+m) * bytes≤140737488355328) (hbase:base≤w.heap.size)
 (h:∀v' w',w'.ownsRow base e size v' (n+m) (xs++news)→w.grownBy w' v.ownBlock→(v'.ownBlock=v.ownBlock∨v'.ownBlock=some w.heap.size)→(m=0→v'=v∧w'=w)→wpList P ops Q rest (a.put o.dst v') w'):wpList P ops Q (o::rest) a w:=
 wpList_plain hgd fun _ hK=>ai3 E s x ho base v n xs p A m c news hs hx hown hl hr h1 h63 hbytes hbase fun v' w' h2 h3 h4 h5=>hK _ _ (h v' w' h2 h3 h4 h5)
end
section
variable {P:Program} {t e:TypeId} {z:Value} {size bytes:Nat}
theorem El.sizeOf (E:El P t e z size bytes)(w:World):(Go.sizeOf e).run P w= .ok size w:=by
 obtain⟨i,hi,_,hsz,_⟩:=info_parts E.info
 simp[Go.sizeOf,typeInfo,hi,hsz]
theorem ac0 (P:Program)(w:World)(a y:Nat)(code:BoundsCode)(h:a≤y):(Instr.sliceBound (.int .i64 (a:Int)) y code).run P w= .ok a w:=by
 have c1:(0:Int)≤(a:Int)∧(a:Int)≤(y:Int):=⟨by omega,by omega⟩
 simp only[Instr.sliceBound,asIntOf,Sem.run_bind,Sem.run_pure,Result.andThen_ok,if_pos c1,Int.toNat_natCast]
def cutAt (A:Option Addr)(c k size:Nat):Option Addr:=if c=k then A else A.map (·.add (k * size))
theorem CU (E:El P t e z size bytes)(A:Option Addr)(n c k:Nat)(w:World)(hk:k≤n):
 (Instr.slice t (.slice A n c) (some (.int .i64 (k:Int))) none none).run P w= .ok (.slice (cutAt A c k size) (n - k) (c - k)) w:=by
 simp[Instr.slice,run_underlying E.under,Instr.sliceBounds,ac0 P w k _ _ hk,E.sizeOf,cutAt]
end
theorem jB {w:World}{base n:Nat}{e:TypeId}{size:Nat}{v:Value}{xs:List Value}(h:w.ownsRow base e size v n xs):∃A c,v= .slice A n c∧n≤c∧(A=none→c=0):=by
 rcases h.2 with⟨h1,h2⟩ | ⟨g,cap,cur,hv,_,_,hc,_⟩
 ·exact⟨none,0,by rw[h1,h2],by omega,fun _=>rfl⟩
 ·exact⟨_,cap,hv,hc,fun h=>by cases h⟩
theorem own_below {w w':World}{base n B:Nat}{e:TypeId}{size:Nat}{v:Value}{xs:List Value}(h:w.ownsRow base e size v n xs)(hb:Below B w w')(hB:w.heap.size≤B):w'.ownsRow base e size v n xs:=
 h.kept (row:=none) ⟨hb.os,hb.tape,hb.output,hb.size,fun i hi _=>hb.block i (by omega)⟩ (by cases v.ownBlock with
   |none=>exact .inl rfl
   |some k=>exact .inr (fun h=>by cases h))
theorem FQ {w w':World}{base n:Nat}{e:TypeId}{size:Nat}{v:Value}{xs:List Value}(h:w.ownsRow base e size v n xs)(hb:Below w.heap.size w w'):w'.ownsRow base e size v n xs:=own_below h hb (zu _)
def bs (l:List UInt8):List Value:=l.map fun c=>.int .u8 (c.toNat:Int)
theorem aS (l:List UInt8):(bs l).length=l.length:=by simp[bs]
theorem BV (l l':List UInt8):bs (l++l')=bs l++bs l':=by simp[bs]
theorem tO (l:List UInt8):∀u∈bs l,u.oneCell'=true:=by
 intro u hu
 simp only[bs,List.mem_map] at hu
 obtain⟨c,_,rfl⟩:=hu
 rfl
theorem yT (l:List UInt8)(k:Nat)(hk:k < (bs l).length):(bs l)[k]= .int .u8 ((l[k]'(by rw[aS] at hk;exact hk)).toNat:Int):=by simp[bs]
theorem Rd.byte {w:World}{p:Nat→Prop}{A:Option Addr}{l:List UInt8}(h:Rd w p A (bs l)){k:Nat}(hk:k < l.length):
 ∃b o,A=some ⟨b,o,none⟩∧p b∧w.cell? ⟨b,o+k,none⟩=some (.int .u8 (l[k].toNat:Int)):=by
 have hx:k < (bs l).length:=by rw[aS];exact hk
 obtain⟨b,o,h1,h2,h3⟩:=h.ex (fun e=>by rw[e] at hx;simp at hx)
 exact⟨b,o,h1,h2,by rw[← yT l k hx];exact h3 k _ (List.getElem?_eq_getElem hx)⟩
theorem bH {k:IntKind}{a b:Int}(h:a=b):Ending.returned (.int k a)= .returned (.int k b):=by rw[h]
theorem aQ {x y:Bool}(h:x=y):Ending.returned (.bool x)= .returned (.bool y):=by rw[h]
theorem grownBy_set (w:World)(b k:Nat)(u:Value):w.grownBy (w.setCell ⟨b,k,none⟩ u) (some b):=
 ⟨rfl,rfl,rfl,by simp[World.setCell],fun i hi hne=>Below.heap_setCell w _ u i (fun e=>hne (by rw[e]))⟩
theorem grownBy_trans {a b c:World}{row:Option Nat}(h:a.grownBy b row)(k:b.grownBy c row):a.grownBy c row:=
 ⟨k.os.trans h.os,k.tape.trans h.tape,k.output.trans h.output,zt h.size k.size,fun i hi hne=>(k.block i (zq hi h.size) hne).trans (h.block i hi hne)⟩
theorem grownBy_drew {a b:World}{row:Option Nat}(h:a.grownBy b row):a.grownBy b.drew row:=⟨h.os,h.tape,h.output,h.size,h.block⟩
theorem grownBy_below {a b:World}(h:Below a.heap.size a b)(row:Option Nat):a.grownBy b row:=⟨h.os,h.tape,h.output,h.size,fun i hi _=>h.block i hi⟩
theorem below_drewN {B:Nat}{a w:World}(h:Below B a w)(n:Nat):Below B a (w.drewN n):=⟨h.os,h.tape,h.output,h.size,h.block⟩
theorem aU (B:Nat)(w:World)(n:Nat):Below B w (w.drewN n):=below_drewN (zo _ _) n
def wdN (S:Nat→Bool)(k:Nat):Nat→Nat
 |0=>0
 |n+1=>wdN S k n ||| (if S (64 * k+n) then 2 ^ n else 0)
def wd (S:Nat→Bool)(k:Nat):Nat:=wdN S k 64
theorem Od (S:Nat→Bool)(k j:Nat):∀n,(wdN S k n).testBit j=(decide (j < n) && S (64 * k+j))
 |0=>by simp[wdN]
 |n+1=>by
  rw[wdN,Nat.testBit_or,Od S k j n]
  by_cases hj:j=n
  ·subst hj
   cases hS:S (64 * k+j) <;> simp
  ·have h1:(j < n+1)↔(j < n):=by omega
   simp only[h1]
   split
   ·rw[Nat.testBit_two_pow]
    have:¬n=j:=fun e=>hj e.symm
    simp[this]
   ·simp
theorem iT (S:Nat→Bool)(k j:Nat):(wd S k).testBit j=(decide (j < 64) && S (64 * k+j)):=Od S k j 64
theorem Oc (S:Nat→Bool)(k:Nat):wd S k < 18446744073709551616:=by
 have:wd S k < 2 ^ 64:=Nat.lt_pow_two_of_testBit _ fun j hj=>by
  rw[iT]
  have:¬j < 64:=by omega
  simp[this]
 simpa using this
def ins (S:Nat→Bool)(a:Nat):Nat→Bool:=fun x=>S x || x == a
theorem ai5 (S:Nat→Bool)(a:Nat):wd (ins S a) (a / 64)=wd S (a / 64) ||| 2 ^ (a % 64):=by
 apply Nat.eq_of_testBit_eq
 intro j
 rw[Nat.testBit_or,iT,iT,Nat.testBit_two_pow,ins]
 have hm:a % 64 < 64:=Nat.mod_lt _ (by decide)
 by_cases hj:j < 64
 ·have e:(64 * (a / 64)+j == a)=decide (a % 64=j):=by
   rw[Bool.eq_iff_iff];simp;omega
  simp[hj,e]
 ·have e:¬a % 64=j:=by omega
  simp[hj,e]
theorem SC (S:Nat→Bool)(a k:Nat)(hk:k≠a / 64):wd (ins S a) k=wd S k:=by
 apply Nat.eq_of_testBit_eq
 intro j
 rw[iT,iT,ins]
 by_cases hj:j < 64
 ·have e:(64 * k+j == a)=false:=by simp;omega
  simp[e]
 ·simp[hj]
theorem afh (k:Nat):wd (fun _=>false) k=0:=by
 apply Nat.eq_of_testBit_eq
 intro j
 rw[iT];simp
structure qd (T:Nat→Bool)(a r:Nat):Prop where
 ge:a≤r
 le:r≤65536
 no:∀x,a≤x→x < r→T x=false
 yes:r < 65536→T r=true
theorem qd.eq {T:Nat→Bool}{a r s:Nat}(h:qd T a r)(k:qd T a s):r=s:=by
 rcases Nat.lt_trichotomy r s with hlt | he | hgt
 ·have h1:=k.no r h.ge hlt
  rw[h.yes (by have:=k.le;omega)] at h1;cases h1
 ·exact he
 ·have h1:=h.no s k.ge hgt
  rw[k.yes (by have:=h.le;omega)] at h1;cases h1
def ags (T:Nat→Bool):Nat→Nat→Nat
 |0,a=>a
 |f+1,a=>if T a then a else ags T f (a+1)
def WZ (T:Nat→Bool)(a:Nat):Nat:=ags T (65536 - a) a
theorem Bh (T:Nat→Bool):∀f a,a+f=65536→qd T a (ags T f a)
 |0,a,h=>⟨zu _,(by show a≤65536;omega),fun x h1 (h2:x < a)=>by omega,fun (h1:a < 65536)=>by omega⟩
 |f+1,a,h=>by
  unfold ags
  split
  ·rename_i ht
   exact⟨zu _,by omega,fun x h1 h2=>by omega,fun _=>ht⟩
  ·rename_i ht
   have ih:=Bh T f (a+1) (by omega)
   exact⟨by have:=ih.ge;omega,ih.le,fun x h1 h2=>by
    rcases Nat.eq_or_lt_of_le h1 with e | e
    ·subst e;simpa using ht
    ·exact ih.no x e h2,ih.yes⟩
theorem aa4 (T:Nat→Bool)(a:Nat)(h:a≤65536):qd T a (WZ T a):=Bh T _ a (by omega)
theorem sJ {T:Nat→Bool}{a r:Nat}(h:qd T a r):WZ T a=r:=
 (aa4 T a (by have:=h.ge;have:=h.le;omega)).eq h
theorem wJ (S:Nat→Bool)(a:Nat)(h:wd S (a / 64) / 2 ^ (a % 64)=0):∀x,a≤x→x < (a / 64+1) * 64→S x=false:=by
 intro x h1 h2
 have hb:=iT S (a / 64) (x % 64)
 have hx:x / 64=a / 64:=by omega
 have e:64 * (a / 64)+x % 64=x:=by omega
 have hm:x % 64 < 64:=by omega
 rw[e] at hb
 simp only[hm,decide_true,Bool.true_and] at hb
 rw[← hb]
 have h3:wd S (a / 64) < 2 ^ (a % 64):=by
  rcases Nat.div_eq_zero_iff.1 h with h4 | h4
  ·exact absurd h4 (Nat.ne_of_gt (Nat.two_pow_pos _))
  ·exact h4
 exact Nat.testBit_lt_two_pow (zq h3 (Nat.pow_le_pow_right (by decide) (by omega)))
theorem Fs (S:Nat→Bool)(a c:Nat)(n m:Nat)(h:wd S (a / 64) / 2 ^ (a % 64)=n)(hn:n=2 ^ c * (2 * m+1)):
 c < 64 - a % 64∧S (a+c)=true∧∀x,a≤x→x < a+c→S x=false:=by
 have hb:∀j,n.testBit j=(wd S (a / 64)).testBit (a % 64+j):=fun j=>by
  rw[← h,Nat.testBit_div_two_pow,Nat.add_comm]
 have h1:n.testBit c=true:=by
  rw[hn,Nat.mul_comm,Nat.testBit_mul_two_pow]
  simp[Nat.testBit_zero]
 have h2:∀j,j < c→n.testBit j=false:=fun j hj=>by
  rw[hn,Nat.mul_comm,Nat.testBit_mul_two_pow]
  have:¬c≤j:=by omega
  simp[this]
 have hc:c < 64 - a % 64:=by
  rw[hb,iT] at h1
  simp at h1;omega
 refine⟨hc,?_,fun x g1 g2=>?_⟩
 ·rw[hb,iT] at h1
  have e:64 * (a / 64)+(a % 64+c)=a+c:=by omega
  rw[e] at h1
  simp at h1;exact h1.2
 ·have h3:=h2 (x - a) (by omega)
  rw[hb,iT] at h3
  have e:64 * (a / 64)+(a % 64+(x - a))=x:=by omega
  have e2:a % 64+(x - a) < 64:=by omega
  rw[e] at h3
  simpa [e2] using h3
structure aeB (cs:Array Value)(S:Nat→Bool)(n:Nat)(D:Nat→UInt8):Prop where
 size:cs.size=66561
 words:∀k,k < 1024→cs[k]? =some (.int .u64 (wd S k))
 count:cs[1024]? =some (.int .i64 n)
 bytes:∀a,a < 65536→cs[1025+a]? =some (.int .u8 (D a).toNat)
end Go.Proofs.YtceaodnohnekkaaGreatDoor
namespace Go.Proofs.YtceaodnohnekkaaGreatDoor.Ex
open Go.RowKit
inductive AV where
 |raw (v:Value)
 |sym (fs:List (Int×Int×Bool)) (x:Int)
 |bool (b:Bool)
 |int (k:IntKind) (n:Int)
 |str (l:List Nat)
 |ptr (b o:Nat)
 |iV (g o:Nat)
 |bY
 |slice (b o k n:Nat) (c:Option Nat)
 |aX
 |zh (j:Nat)
 |map (b:Nat)
 |ug (b:Nat)
 |fn (f:Fn) (l c:List AV)
 |iface (t:TypeId) (v:AV)
 |agg (l:List AV)
 |tuple (l:List AV)
 |rA (l:List AV)
structure Env where
 blk:Nat→Nat
 cap:Nat→Nat
 es:Nat→Addr×Nat
def bN (c:Nat):Nat:=c % 256
def aa (l:List Nat):ByteArray:=⟨(l.map UInt8.ofNat).toArray⟩
mutual
def cv (ρ:Env):AV→Value
 | .raw v=>v
 | .sym _ x=>.int .i64 x
 | .bool b=>.bool b
 | .int k n=>.int k n
 | .str l=>.string (aa l)
 | .ptr b o=>.pointer (some ⟨ρ.blk b,o,none⟩)
 | .iV g o=>.pointer (some ⟨g,o,none⟩)
 | .bY=>.pointer none
 | .slice b o k n c=>.slice (some ⟨ρ.blk b,o,none⟩) n (match c with | some c=>c | none=>ρ.cap b - k)
 | .aX=>.slice none 0 0
 | .zh j=>.slice (some (ρ.es j).1) 0 (ρ.es j).2
 | .map b=>.map (some (ρ.blk b))
 | .ug b=>.func (.yield (ρ.blk b)) #[] #[]
 | .fn f l c=>.func f (aG ρ l).toArray (aG ρ c).toArray
 | .iface t v=>.iface t (cv ρ v)
 | .agg l=>.agg (aG ρ l).toArray
 | .tuple l=>.tuple (aG ρ l).toArray
 | .rA _=>.tuple #[]
def aG (ρ:Env):List AV→List Value
 |[]=>[]
 |v::l=>cv ρ v::aG ρ l
end
def iZ (fs:List (Int×Int×Bool))(x:Int):Prop:=∀f∈fs,(decide (f.1≤x) && decide (x≤f.2.1))=f.2.2
mutual
def AV.ok (n:Nat):AV→Prop
 | .sym fs x=>iZ fs x
 | .ptr b _=>b < n
 | .slice b _ _ _ _=>b < n
 | .zh j=>j < n
 | .map b=>b < n
 | .ug b=>b < n
 | .fn _ l c=>oks n l∧oks n c
 | .iface _ v=>v.ok n
 | .agg l=>oks n l
 | .tuple l=>oks n l
 | .rA l=>oks n l
 |_=>True
def oks (n:Nat):List AV→Prop
 |[]=>True
 |v::l=>v.ok n∧oks n l
end
theorem bA (ρ:Env):∀l,aG ρ l=l.map (cv ρ)
 |[]=>rfl
 |v::l=>by rw[aG,bA ρ l,List.map_cons]
theorem bO (n:Nat):∀l,oks n l↔∀v∈l,v.ok n
 |[]=>by simp[oks]
 |v::l=>by rw[oks,bO n l];simp
theorem ak (ρ:Env)(l:List AV):(aG ρ l).length=l.length:=by rw[bA,List.length_map]
structure Ext (n:Nat)(ρ ρ':Env):Prop where
 blk:∀b,b < n→ρ'.blk b=ρ.blk b
 cap:∀b,b < n→ρ'.cap b=ρ.cap b
 es:∀b,b < n→ρ'.es b=ρ.es b
theorem Ext.refl (n:Nat)(ρ:Env):Ext n ρ ρ:=⟨fun _ _=>rfl,fun _ _=>rfl,fun _ _=>rfl⟩
theorem Ext.trans {n m:Nat}{ρ ρ' pz:Env}(h:Ext n ρ ρ')(k:Ext m ρ' pz)(hn:n≤m):Ext n ρ pz:=
 ⟨fun b hb=>(k.blk b (by omega)).trans (h.blk b hb),fun b hb=>(k.cap b (by omega)).trans (h.cap b hb),fun b hb=>(k.es b (by omega)).trans (h.es b hb)⟩
section
variable {n:Nat} {ρ ρ':Env}
mutual
theorem iA (h:Ext n ρ ρ'):∀v:AV,v.ok n→cv ρ' v=cv ρ v
 | .raw _,_ | .sym _ _,_ | .bool _,_ | .int _ _,_ | .str _,_ | .bY,_ | .iV _ _,_ | .aX,_ | .rA _,_=>by simp only[cv]
 | .ptr b o,hv=>by rw[cv,cv,h.blk b hv]
 | .slice b o k m c,hv=>by
   have hb:=h.blk b hv
   have hc:=h.cap b hv
   cases c <;> simp only[cv,hb,hc]
 | .zh j,hv=>by rw[cv,cv,h.es j hv]
 | .map b,hv=>by rw[cv,cv,h.blk b hv]
 | .ug b,hv=>by rw[cv,cv,h.blk b hv]
 | .fn f l c,hv=>by rw[cv,cv,cu h l hv.1,cu h c hv.2]
 | .iface t v,hv=>by rw[cv,cv,iA h v hv]
 | .agg l,hv=>by rw[cv,cv,cu h l hv]
 | .tuple l,hv=>by rw[cv,cv,cu h l hv]
theorem cu (h:Ext n ρ ρ'):∀l:List AV,oks n l→aG ρ' l=aG ρ l
 |[],_=>rfl
 |v::l,hv=>by rw[aG,aG,iA h v hv.1,cu h l hv.2]
end
end
mutual
theorem AV.ok.mono {n m:Nat}(h:n≤m):∀v:AV,v.ok n→v.ok m
 | .raw _,_ | .bool _,_ | .int _ _,_ | .str _,_ | .bY,_ | .iV _ _,_ | .aX,_=>trivial
 | .sym _ _,hv=>hv
 | .ptr _b _o,hv=>zq hv h
 | .slice _b _o _k _ _c,hv=>zq hv h
 | .zh _j,hv=>zq hv h
 | .map _b,hv=>zq hv h
 | .ug _b,hv=>zq hv h
 | .fn _f l c,hv=>⟨oks.mono h l hv.1,oks.mono h c hv.2⟩
 | .iface _t v,hv=>AV.ok.mono h v hv
 | .agg l,hv=>oks.mono h l hv
 | .tuple l,hv=>oks.mono h l hv
 | .rA l,hv=>oks.mono h l hv
theorem oks.mono {n m:Nat}(h:n≤m):∀l:List AV,oks n l→oks m l
 |[],_=>trivial
 |v::l,hv=>⟨AV.ok.mono h v hv.1,oks.mono h l hv.2⟩
end
def au {α:Type}(k:Nat):List (Nat×α)→Option α
 |[]=>none
 |p::l=>cond (Nat.beq p.1 k) (some p.2) (au k l)
def gF {α:Type}(k:Nat)(v:α):List (Nat×α)→List (Nat×α)
 |[]=>[]
 |p::l=>cond (Nat.beq p.1 k) ((k,v)::l) (p::gF k v l)
def rO {α:Type}(k:Nat):List (Nat×α)→List (Nat×α)
 |[]=>[]
 |p::l=>cond (Nat.beq p.1 k) l (p::rO k l)
theorem beq_iff (a b:Nat):Nat.beq a b=true↔a=b:=⟨Nat.eq_of_beq_eq_true,fun h=>by subst h;exact Nat.beq_refl a⟩
theorem iB {a b:Nat}(h:a≠b):Nat.beq a b=false:=by
 cases e:Nat.beq a b
 ·rfl
 ·exact absurd ((beq_iff _ _).1 e) h
theorem aC {α:Type}(k:Nat)(v:α)(l:List (Nat×α)):au k ((k,v)::l)=some v:=by
 simp[au]
theorem aI {α:Type}{k j:Nat}(v:α)(l:List (Nat×α))(h:j≠k):au k ((j,v)::l)=au k l:=by
 simp[au,iB h]
theorem mF {α:Type}{k j:Nat}(v:α)(h:j≠k):∀l:List (Nat×α),au k (gF j v l)=au k l
 |[]=>rfl
 |p::l=>by
  by_cases hj:p.1=j
  ·have e:Nat.beq p.1 j=true:=(beq_iff _ _).2 hj
   have e2:Nat.beq p.1 k=false:=iB (fun e=>h (hj.symm.trans e))
   simp[gF,e,au,e2,iB h]
  ·simp only[gF,iB hj,cond_false,au]
   rw[mF v h l]
theorem nP {α:Type}{k:Nat}(v:α):∀(l:List (Nat×α)) {u:α},au k l=some u→au k (gF k v l)=some v
 |[],_,h=>by cases h
 |p::l,u,h=>by
  by_cases hj:p.1=k
  ·have e:Nat.beq p.1 k=true:=(beq_iff _ _).2 hj
   simp[gF,e,au]
  ·simp only[gF,au,iB hj,cond_false] at h ⊢
   exact nP v l h
theorem Ca {α:Type}(k:Nat)(v:α):∀l:List (Nat×α),(gF k v l).map (·.1)=l.map (·.1)
 |[]=>rfl
 |p::l=>by
  by_cases hj:p.1=k
  ·have e:Nat.beq p.1 k=true:=(beq_iff _ _).2 hj
   simp[gF,hj]
  ·simp only[gF,iB hj,cond_false,List.map_cons,Ca k v l]
theorem rM {α:Type}(k:Nat):∀l:List (Nat×α),(rO k l).Sublist l
 |[]=>.slnil
 |p::l=>by
  unfold rO
  cases Nat.beq p.1 k
  ·exact (rM k l).cons_cons p
  ·exact (List.Sublist.refl l).cons p
theorem cz {α:Type}{k:Nat}{v:α}:∀{l:List (Nat×α)},au k l=some v→(k,v)∈l
 |[],h=>by cases h
 |p::l,h=>by
  by_cases hj:p.1=k
  ·have e:Nat.beq p.1 k=true:=(beq_iff _ _).2 hj
   simp only[au,e,cond_true,Option.some.injEq] at h
   obtain⟨p1,p2⟩:=p
   simp only at h hj
   subst h;subst hj
   exact zn
  ·simp only[au,iB hj,cond_false] at h
   exact zm _ (cz h)
theorem ed {α:Type}{k:Nat}{v:α}:∀{l:List (Nat×α)},(l.map (·.1)).Nodup→(k,v)∈l→au k l=some v
 |[],_,h=>by cases h
 |p::l,hn,h=>by
  simp only[List.map_cons,List.nodup_cons] at hn
  rcases List.mem_cons.1 h with rfl | h
  ·exact aC _ _ _
  ·have hk:p.1≠k:=fun e=>hn.1 (List.mem_map.2 ⟨(k,v),h,e.symm⟩)
   simp only[au,iB hk,cond_false]
   exact ed hn.2 h
theorem jP {α:Type}{l l':List (Nat×α)}(hn:(l.map (·.1)).Nodup)(h:l'.Sublist l){k:Nat}{v:α}(hk:au k l'=some v):au k l=some v:=
 ed hn (h.subset (cz hk))
theorem Cf {α:Type}{k:Nat}:∀{l:List (Nat×α)},(l.map (·.1)).Nodup→∀{v:α},au k (rO k l)≠some v
 |[],_,_,h=>by cases h
 |p::l,hn,v,h=>by
  simp only[List.map_cons,List.nodup_cons] at hn
  by_cases hj:p.1=k
  ·have e:Nat.beq p.1 k=true:=(beq_iff _ _).2 hj
   simp only[rO,e,cond_true] at h
   exact hn.1 (List.mem_map.2 ⟨(k,v),cz h,hj.symm⟩)
  ·simp only[rO,iB hj,cond_false,au] at h
   exact Cf hn.2 h
theorem iK {α:Type}{k j:Nat}{l:List (Nat×α)}(hn:(l.map (·.1)).Nodup){u:α}(h:au k (rO j l)=some u):k≠j∧au k l=some u:=
 ⟨fun e=>by subst e;exact Cf hn h,jP hn (rM j l) h⟩
inductive TT where
 |nil
 |nd (v:AV) (l r:TT)
def TT.get:TT→Nat→AV
 | .nil,_=>.tuple []
 | .nd v l r,i=>match i with
   |0=>v
   |k+1=>cond (Nat.beq (Nat.mod k 2) 0) (l.get (Nat.div k 2)) (r.get (Nat.div k 2))
def TT.mkl (u:AV)(r:TT):TT→TT
 | .nil=>.nd u .nil r
 | .nd a b c=>.nd u (.nd a b c) r
def TT.mkr (u:AV)(l:TT):TT→TT
 | .nil=>.nd u l .nil
 | .nd a b c=>.nd u l (.nd a b c)
def TT.put:Nat→TT→Nat→AV→TT
 |0,t,_,_=>t
 |f+1,t,i,v=>match t with
  | .nil=>match i with
    |0=>.nd v .nil .nil
    |k+1=>cond (Nat.beq (Nat.mod k 2) 0) (TT.mkl (.tuple []) .nil (TT.put f .nil (Nat.div k 2) v)) (TT.mkr (.tuple []) .nil (TT.put f .nil (Nat.div k 2) v))
  | .nd u l r=>match i with
    |0=>.nd v l r
    |k+1=>cond (Nat.beq (Nat.mod k 2) 0) (TT.mkl u r (TT.put f l (Nat.div k 2) v)) (TT.mkr u l (TT.put f r (Nat.div k 2) v))
theorem TT.abf (u:AV)(r t:TT):TT.mkl u r t= .nd u t r:=by cases t <;> rfl
theorem TT.abe (u:AV)(l t:TT):TT.mkr u l t= .nd u l t:=by cases t <;> rfl
theorem TT.get_nil (i:Nat):TT.nil.get i= .tuple []:=rfl
theorem TT.qW (v:AV)(l r:TT):(TT.nd v l r).get 0=v:=rfl
theorem TT.dE (v:AV)(l r:TT)(k:Nat):(TT.nd v l r).get (k+1)=if k % 2=0 then l.get (k / 2) else r.get (k / 2):=by
 show cond (Nat.beq (k % 2) 0) _ _=_
 by_cases h:k % 2=0
 ·rw[h];rfl
 ·rw[iB h,if_neg h];rfl
theorem nJ {α:Type}(k:Nat)(x y:α):cond (Nat.beq (Nat.mod k 2) 0) x y=if k % 2=0 then x else y:=by
 show cond (Nat.beq (k % 2) 0) _ _=_
 by_cases h:k % 2=0
 ·rw[h];rfl
 ·rw[iB h,if_neg h];rfl
theorem TT.Df (f k:Nat)(v:AV):TT.put (f+1) .nil (k+1) v=if k % 2=0 then .nd (.tuple []) (TT.put f .nil (k / 2) v) .nil else .nd (.tuple []) .nil (TT.put f .nil (k / 2) v):=by
 simp only[TT.put,TT.abf,TT.abe]
 exact nJ k _ _
theorem TT.FL (f k:Nat)(u:AV)(l r:TT)(v:AV):TT.put (f+1) (.nd u l r) (k+1) v=if k % 2=0 then .nd u (TT.put f l (k / 2) v) r else .nd u l (TT.put f r (k / 2) v):=by
 simp only[TT.put,TT.abf,TT.abe]
 exact nJ k _ _
theorem TT.gK:∀(f:Nat) (t:TT) (i:Nat) (v:AV) (j:Nat),i+1 < 2 ^ f→(TT.put f t i v).get j=if i=j then v else t.get j
 |0,t,i,v,j,h=>by simp at h
 |f+1,t,i,v,j,h=>by
  have key:∀k,i=k+1→k / 2+1 < 2 ^ f:=fun k hk=>by
   have:2 ^ (f+1)=2 * 2 ^ f:=by rw[Nat.pow_succ,Nat.mul_comm]
   omega
  have DK:∀k m,k % 2=m % 2→(k / 2=m / 2↔k+1=m+1):=fun k m h=>by omega
  cases i with
  |zero=>
   cases t <;> cases j with
   |zero=>rfl
   |succ j=>
    first
     |(show (TT.nd v .nil .nil).get (j+1)=_
       rw[TT.dE];simp[TT.get_nil])
     |(rename_i u l r
       show (TT.nd v l r).get (j+1)=_
       rw[TT.dE,TT.dE,if_neg (show ¬0=j+1 by omega)])
  |succ k=>
   have hk:=key k rfl
   cases t with
   |nil=>
    rw[TT.Df]
    by_cases hp:k % 2=0
    ·rw[if_pos hp]
     cases j with
     |zero=>rw[TT.qW,if_neg (by omega)];rfl
     |succ j=>
      rw[TT.dE]
      by_cases hj:j % 2=0
      ·rw[if_pos hj,TT.gK f _ _ _ _ hk]
       simp only[DK k j (hp.trans hj.symm)]
       rfl
      ·rw[if_neg hj,if_neg (fun e=>hj (by omega))]
       rfl
    ·rw[if_neg hp]
     cases j with
     |zero=>rw[TT.qW,if_neg (by omega)];rfl
     |succ j=>
      rw[TT.dE]
      by_cases hj:j % 2=0
      ·rw[if_pos hj,if_neg (fun e=>hp (by omega))]
       rfl
      ·rw[if_neg hj,TT.gK f _ _ _ _ hk]
       simp only[DK k j (by omega)]
       rfl
   |nd u l r=>
    rw[TT.FL]
    by_cases hp:k % 2=0
    ·rw[if_pos hp]
     cases j with
     |zero=>rw[TT.qW,if_neg (by omega)];rfl
     |succ j=>
      rw[TT.dE,TT.dE]
      by_cases hj:j % 2=0
      ·rw[if_pos hj,if_pos hj,TT.gK f _ _ _ _ hk]
       simp only[DK k j (hp.trans hj.symm)]
      ·rw[if_neg hj,if_neg hj,if_neg (fun e=>hj (by omega))]
    ·rw[if_neg hp]
     cases j with
     |zero=>rw[TT.qW,if_neg (by omega)];rfl
     |succ j=>
      rw[TT.dE,TT.dE]
      by_cases hj:j % 2=0
      ·rw[if_pos hj,if_pos hj,if_neg (fun e=>hp (by omega))]
      ·rw[if_neg hj,if_neg hj,TT.gK f _ _ _ _ hk]
       simp only[DK k j (by omega)]
inductive Tr (α:Type) where
 |nil
 |nd (v:Option α) (l r:Tr α)
def Tr.get {α:Type}:Tr α→Nat→Option α
 | .nil,_=>none
 | .nd v l r,i=>match i with
   |0=>v
   |k+1=>cond (Nat.beq (Nat.mod k 2) 0) (l.get (Nat.div k 2)) (r.get (Nat.div k 2))
def Tr.put {α:Type}:Nat→Tr α→Nat→α→Tr α
 |0,t,_,_=>t
 |f+1,t,i,v=>match t with
  | .nil=>match i with
    |0=>.nd (some v) .nil .nil
    |k+1=>cond (Nat.beq (Nat.mod k 2) 0) (.nd none (Tr.put f .nil (Nat.div k 2) v) .nil) (.nd none .nil (Tr.put f .nil (Nat.div k 2) v))
  | .nd u l r=>match i with
    |0=>.nd (some v) l r
    |k+1=>cond (Nat.beq (Nat.mod k 2) 0) (.nd u (Tr.put f l (Nat.div k 2) v) r) (.nd u l (Tr.put f r (Nat.div k 2) v))
theorem Tr.get_nil {α:Type}(i:Nat):(Tr.nil:Tr α).get i=none:=rfl
theorem Tr.dE {α:Type}(v:Option α)(l r:Tr α)(k:Nat):(Tr.nd v l r).get (k+1)=if k % 2=0 then l.get (k / 2) else r.get (k / 2):=nJ k _ _
theorem Tr.gK {α:Type}:∀(f:Nat) (t:Tr α) (i:Nat) (v:α) (j:Nat) (u:α),(Tr.put f t i v).get j=some u→(j=i∧u=v)∨t.get j=some u
 |0,t,i,v,j,u,h=>.inr h
 |f+1,t,i,v,j,u,h=>by
  have DK:∀k m,k % 2=m % 2→k / 2=m / 2→k+1=m+1:=fun k m h1 h2=>by omega
  cases t with
  |nil=>
   cases i with
   |zero=>
    cases j with
    |zero=>exact .inl ⟨rfl,(zx h).symm⟩
    |succ j=>
     have:(Tr.nd (some v) .nil .nil).get (j+1)=some u:=h
     rw[Tr.dE] at this
     simp[Tr.get_nil] at this
   |succ k=>
    have h':(if k % 2=0 then Tr.nd none (Tr.put f .nil (k / 2) v) .nil else Tr.nd none .nil (Tr.put f .nil (k / 2) v)).get j=some u:=by
     rw[← nJ k (Tr.nd none (Tr.put f .nil (k / 2) v) .nil) (Tr.nd none .nil (Tr.put f .nil (k / 2) v))];exact h
    cases j with
    |zero=>split at h' <;> cases h'
    |succ j=>
     split at h' <;> rename_i hp <;> rw[Tr.dE] at h' <;> split at h' <;> rename_i hj
     ·rcases Tr.gK f _ _ _ _ _ h' with⟨e,rfl⟩ | e
      ·exact .inl ⟨DK j k (by omega) e,rfl⟩
      ·cases e
     ·cases h'
     ·cases h'
     ·rcases Tr.gK f _ _ _ _ _ h' with⟨e,rfl⟩ | e
      ·exact .inl ⟨DK j k (by omega) e,rfl⟩
      ·cases e
  |nd w l r=>
   cases i with
   |zero=>
    cases j with
    |zero=>exact .inl ⟨rfl,(zx h).symm⟩
    |succ j=>
     have:(Tr.nd (some v) l r).get (j+1)=some u:=h
     rw[Tr.dE] at this
     exact .inr (by rw[Tr.dE];exact this)
   |succ k=>
    have h':(if k % 2=0 then Tr.nd w (Tr.put f l (k / 2) v) r else Tr.nd w l (Tr.put f r (k / 2) v)).get j=some u:=by
     rw[← nJ k (Tr.nd w (Tr.put f l (k / 2) v) r) (Tr.nd w l (Tr.put f r (k / 2) v))];exact h
    cases j with
    |zero=>right;split at h' <;> exact h'
    |succ j=>
     rw[Tr.dE]
     split at h' <;> rename_i hp <;> rw[Tr.dE] at h' <;> split at h' <;> rename_i hj
     ·rw[if_pos hj]
      rcases Tr.gK f _ _ _ _ _ h' with⟨e,rfl⟩ | e
      ·exact .inl ⟨DK j k (by omega) e,rfl⟩
      ·exact .inr e
     ·rw[if_neg hj];exact .inr h'
     ·rw[if_pos hj];exact .inr h'
     ·rw[if_neg hj]
      rcases Tr.gK f _ _ _ _ _ h' with⟨e,rfl⟩ | e
      ·exact .inl ⟨DK j k (by omega) e,rfl⟩
      ·exact .inr e
def Xz {α:Type}:List (Nat×α)→Tr α
 |[]=>.nil
 |p::l=>Tr.put 20 (Xz l) p.1 p.2
theorem wz {α:Type}{k:Nat}{v:α}:∀{l:List (Nat×α)},(Xz l).get k=some v→(k,v)∈l
 |[],h=>by cases h
 |p::l,h=>by
  rcases Tr.gK _ _ _ _ _ _ h with⟨rfl,rfl⟩ | h
  ·exact zn
  ·exact zm _ (wz h)
inductive aF where
 |cells (vals:List AV) (e:TypeId) (sz:Option Nat)
 |map (es:List (AV×AV×Nat)) (clock:Nat)
 |ky (es:List (AV×AV))
 |mX (l:List Nat) (pos:Nat)
 |mo (m since:Nat) (seen:List Nat) (last:Nat)
 |loop (st:LoopState) (pend:Option Code) (N:Nat) (t:TT) (ps:Array Tmp) (assign body:Code)
 |Sa
 |img (e:TypeId) (l:List (Nat×Nat))
def EL (l:List (Nat×Nat)):Nat→Bool:=fun a=>(au a l).isSome
def imD (l:List (Nat×Nat)):Nat→UInt8:=fun a=>UInt8.ofNat ((au a l).getD 0)
def aF.ok (n:Nat):aF→Prop
 | .cells vals _ _=>oks n vals
 | .map es _=>∀x∈es,x.1.ok n∧x.2.1.ok n
 | .ky es=>∀x∈es,x.1.ok n∧x.2.ok n
 | .mX _ _=>True
 | .mo m _ _ _=>m < n
 | .loop _ _ _ t _ _ _=>∀i,(t.get i).ok n
 | .Sa=>True
 | .img _ _=>True
def aH (ρ:Env)(x:AV×AV×Nat):MapEntry:=⟨cv ρ x.1,cv ρ x.2.1,x.2.2⟩
def aF.rep (ρ:Env)(w:World)(b:Nat):aF→Prop
 | .cells vals e none=>w.heap[ρ.blk b]? =some (.cells (aG ρ vals).toArray e (0,0))
 | .cells vals e (some sz)=>∃n cur,w.heap[ρ.blk b]? =some (.cells cur e (0,0))∧n≤ρ.cap b∧ρ.cap b≤maxLen∧cur.size=ρ.cap b * sz∧vals.length=n * sz∧cur.toList.take (n * sz)=aG ρ vals
 | .map es clock=>w.heap[ρ.blk b]? =some (.map (es.map (aH ρ)).toArray clock)
 | .ky es=>∃(arr:Array MapEntry) (clock:Nat),w.heap[ρ.blk b]? =some (.map arr clock)∧(arr.toList.map fun e=>(e.key,e.val)).Perm (es.map fun x=>(cv ρ x.1,cv ρ x.2))∧(es.map fun x=>cv ρ x.1).Nodup
 | .mX l pos=>w.heap[ρ.blk b]? =some (.stringIter (aa l) pos)
 | .mo m since seen last=>w.heap[ρ.blk b]? =some (.mapIter (some (ρ.blk m)) since seen.toArray last)
 | .loop st pend N t ps asqz bd=>∃r:Loop,w.heap[ρ.blk b]? =some (.loop r)∧r.state=st∧r.pending=pend∧r.tmps.size=N∧(∀i,r.tmps.getD i undef=cv ρ (t.get i))∧r.params=ps∧r.assign=asqz∧r.body=bd
 | .Sa=>w.heap[ρ.blk b]? =some (.deferred (some []))
 | .img e l=>∃cs,w.heap[ρ.blk b]? =some (.cells cs e (0,0))∧aeB cs (EL l) l.length (imD l)
theorem aF.rep.heap {ρ:Env}{w w':World}{b:Nat}:∀{k:aF},k.rep ρ w b→w'.heap[ρ.blk b]? =w.heap[ρ.blk b]? →k.rep ρ w' b
 | .cells _ _ none,h,e=>e.trans h
 | .cells _ _ (some _),⟨n,cur,h,h'⟩,e=>⟨n,cur,e.trans h,h'⟩
 | .map _ _,h,e=>e.trans h
 | .ky _,⟨arr,c,h,h'⟩,e=>⟨arr,c,e.trans h,h'⟩
 | .mX _ _,h,e=>e.trans h
 | .mo _ _ _ _,h,e=>e.trans h
 | .loop _ _ _ _ _ _ _,⟨r,h,h'⟩,e=>⟨r,e.trans h,h'⟩
 | .Sa,h,e=>e.trans h
 | .img _ _,⟨cs,h,h'⟩,e=>⟨cs,e.trans h,h'⟩
theorem aF.rep.ext {n:Nat}{ρ ρ':Env}{w:World}{b:Nat}(he:Ext n ρ ρ')(hb:b < n):∀{k:aF},k.ok n→k.rep ρ w b→k.rep ρ' w b
 | .cells vals _ none,ho,h=>by
   simp only[aF.rep] at h ⊢
   rw[he.blk b hb,cu he vals ho];exact h
 | .cells vals _ (some _),ho,⟨n,cur,h1,h2,h3,h4,h5,h6⟩=>by
   refine⟨n,cur,?_,?_,?_,?_,h5,?_⟩
   ·rw[he.blk b hb];exact h1
   ·rw[he.cap b hb];exact h2
   ·rw[he.cap b hb];exact h3
   ·rw[he.cap b hb];exact h4
   ·rw[cu he vals ho];exact h6
 | .map es _,ho,h=>by
   simp only[aF.rep] at h ⊢
   have e:es.map (aH ρ')=es.map (aH ρ):=List.map_congr_left fun x hx=>by
    simp only[aH,iA he _ (ho x hx).1,iA he _ (ho x hx).2]
   rw[he.blk b hb,e];exact h
 | .ky es,ho,⟨arr,c,h1,h2,h3⟩=>by
   have e1:(es.map fun x=>(cv ρ' x.1,cv ρ' x.2))=es.map fun x=>(cv ρ x.1,cv ρ x.2):=List.map_congr_left fun x hx=>by rw[iA he _ (ho x hx).1,iA he _ (ho x hx).2]
   have e2:(es.map fun x=>cv ρ' x.1)=es.map fun x=>cv ρ x.1:=List.map_congr_left fun x hx=>iA he _ (ho x hx).1
   refine⟨arr,c,?_,by rw[e1];exact h2,by rw[e2];exact h3⟩
   rw[he.blk b hb];exact h1
 | .mX _ _,_,h=>by
   simp only[aF.rep] at h ⊢
   rw[he.blk b hb];exact h
 | .mo m _ _ _,ho,h=>by
   simp only[aF.rep] at h ⊢
   rw[he.blk b hb,he.blk m ho];exact h
 | .loop _ _ _ t _ _ _,ho,⟨r,h1,h2,h3,h4,h5,h6⟩=>by
   refine⟨r,?_,h2,h3,h4,fun i=>?_,h6⟩
   ·rw[he.blk b hb];exact h1
   ·rw[iA he _ (ho i)];exact h5 i
 | .Sa,_,h=>by
   simp only[aF.rep] at h ⊢
   rw[he.blk b hb];exact h
 | .img _ _,_,⟨cs,h1,h2⟩=>by
   refine⟨cs,?_,h2⟩
   rw[he.blk b hb];exact h1
theorem aF.ok.mono {n m:Nat}(h:n≤m):∀{k:aF},k.ok n→k.ok m
 | .cells vals _ _,ho=>oks.mono h vals ho
 | .map _ _,ho=>fun x hx=>⟨AV.ok.mono h _ (ho x hx).1,AV.ok.mono h _ (ho x hx).2⟩
 | .ky _,ho=>fun x hx=>⟨AV.ok.mono h _ (ho x hx).1,AV.ok.mono h _ (ho x hx).2⟩
 | .mX _ _,_=>trivial
 | .mo _ _ _ _,ho=>zq ho h
 | .loop _ _ _ _ _ _ _,ho=>fun i=>AV.ok.mono h _ (ho i)
 | .Sa,_=>trivial
 | .img _ _,_=>trivial
theorem aF.sH {n:Nat}{ρ ρ':Env}{w w':World}{b:Nat}{k:aF}(hh:w'.heap[ρ.blk b]? =w.heap[ρ.blk b]?)(he:Ext n ρ ρ')(hb:b < n)(ho:k.ok n)(h:k.rep ρ w b):k.rep ρ' w' b:=(h.heap hh).ext he hb ho
structure AW where
 nx:Nat
 bl:List (Nat×aF)
 az:List Nat
 gl:List (Nat×List Value)
structure aO (w0:World)(ρ:Env)(W:AW)(w:World):Prop where
 below:Below w0.heap.size w0 w
 ok:∀b k,au b W.bl=some k→b < W.nx∧k.ok W.nx∧w0.heap.size≤ρ.blk b∧ρ.blk b < w.heap.size
 inj:∀b b' k k',au b W.bl=some k→au b' W.bl=some k'→ρ.blk b=ρ.blk b'→b=b'
 rep:∀b k,au b W.bl=some k→k.rep ρ w b
 kN:(W.bl.map (·.1)).Nodup
 gl:∀g l,au g W.gl=some l→∀(j:Nat) (v:Value),l[j]? =some v→w0.cell? ⟨g,j,none⟩=some v
structure Gr (w w':World)(M:Nat→Prop):Prop where
 os:w'.os=w.os
 tape:w'.tape=w.tape
 output:w'.output=w.output
 size:w.heap.size≤w'.heap.size
 block:∀i,i < w.heap.size→¬M i→w'.heap[i]? =w.heap[i]?
theorem Gr.refl (w:World)(M:Nat→Prop):Gr w w M:=⟨rfl,rfl,rfl,zu _,fun _ _ _=>rfl⟩
theorem Gr.trans {a b c:World}{M:Nat→Prop}(h:Gr a b M)(k:Gr b c M):Gr a c M:=
 ⟨k.os.trans h.os,k.tape.trans h.tape,k.output.trans h.output,zt h.size k.size,fun i hi hm=>(k.block i (zq hi h.size) hm).trans (h.block i hi hm)⟩
theorem Gr.mono {a b:World}{M N:Nat→Prop}(h:Gr a b M)(hm:∀i,i < a.heap.size→M i→N i):Gr a b N:=⟨h.os,h.tape,h.output,h.size,fun i hi hn=>h.block i hi fun m=>hn (hm i hi m)⟩
theorem Gr.below {a b:World}{M:Nat→Prop}{B:Nat}(h:Gr a b M)(hB:B≤a.heap.size)(hm:∀i,M i→B≤i):Below B a b:=
 ⟨h.os,h.tape,h.output,h.size,fun i hi=>h.block i (by omega) fun m=>by have:=hm i m;omega⟩
theorem Gr.kL {a b:World}{row:Option Nat}(h:a.grownBy b row):Gr a b (fun i=>row=some i):=
 ⟨h.os,h.tape,h.output,h.size,fun i hi hm=>h.block i hi fun e=>hm e.symm⟩
def fD (ρ:Env)(W W':AW)(i:Nat):Prop:=∃b,b∈W'.az∧b < W.nx∧ρ.blk b=i
structure Post (w0:World)(ρ:Env)(W:AW)(w:World)(ρ':Env)(W':AW)(w':World):Prop where
 ext:Ext W.nx ρ ρ'
 nx:W.nx≤W'.nx
 az:∀b,b∈W.az→b∈W'.az
 gr:Gr w w' (fD ρ W W')
 fresh:∀b,W.nx≤b→b < W'.nx→ρ'.blk b < w.heap.size→fD ρ W W' (ρ'.blk b)
 rep:aO w0 ρ' W' w'
 dom:∀b,b < W.nx→(au b W'.bl).isSome=true→(au b W.bl).isSome=true
 old:∀b,b < W.nx→b∈W'.az→b∈W.az∨(au b W.bl).isSome=true
 gl:W'.gl=W.gl
theorem Post.refl {w0:World}{ρ:Env}{W:AW}{w:World}(h:aO w0 ρ W w):Post w0 ρ W w ρ W w:=
 ⟨Ext.refl _ _,zu _,fun _ h=>h,Gr.refl _ _,fun b h1 h2=>by omega,h,fun _ _ h=>h,fun _ _ h=>.inl h,rfl⟩
theorem Post.trans {w0:World}{ρ ρ' pz:Env}{W W' W'':AW}{w w' w'':World}(h:Post w0 ρ W w ρ' W' w')(k:Post w0 ρ' W' w' pz W'' w''):Post w0 ρ W w pz W'' w'':=by
 have key:∀i,i < w.heap.size→fD ρ' W' W'' i→fD ρ W W'' i:=by
  rintro i hi ⟨b,hb,hlt,rfl⟩
  by_cases hbn:b < W.nx
  ·exact⟨b,hb,hbn,(h.ext.blk b hbn).symm⟩
  ·obtain⟨b0,h1,h2,h3⟩:=h.fresh b (by omega) hlt hi
   exact⟨b0,k.az _ h1,h2,h3⟩
 refine⟨h.ext.trans k.ext h.nx,zt h.nx k.nx,fun b hb=>k.az b (h.az b hb),?_,?_,k.rep,fun b hb hs=>h.dom b hb (k.dom b (zq hb h.nx) hs),fun b hb hm=>?_,k.gl.trans h.gl⟩
 rotate_left 2
 ·rcases k.old b (zq hb h.nx) hm with h1 | h1
  ·exact h.old b hb h1
  ·exact .inr (h.dom b hb h1)
 ·exact⟨k.gr.os.trans h.gr.os,k.gr.tape.trans h.gr.tape,k.gr.output.trans h.gr.output,zt h.gr.size k.gr.size,
   fun i hi hm=>(k.gr.block i (zq hi h.gr.size) fun n=>hm (key i hi n)).trans (h.gr.block i hi fun ⟨b,h1,h2,h3⟩=>hm ⟨b,k.az _ h1,h2,h3⟩)⟩
 ·intro b h1 h2 h3
  by_cases hb:b < W'.nx
  ·rw[k.ext.blk b hb] at h3 ⊢
   obtain⟨b0,q1,q2,q3⟩:=h.fresh b h1 hb h3
   exact⟨b0,k.az _ q1,q2,q3⟩
  ·exact key _ h3 (k.fresh b (by omega) h2 (zq h3 h.gr.size))
def Env.up (ρ:Env)(n g c:Nat):Env:={ blk:=fun b=>if b=n then g else ρ.blk b,cap:=fun b=>if b=n then c else ρ.cap b,es:=ρ.es}
theorem Env.fM (ρ:Env)(n g c:Nat):Ext n ρ (ρ.up n g c):=⟨fun b hb=>by simp[Env.up,Nat.ne_of_lt hb],fun b hb=>by simp[Env.up,Nat.ne_of_lt hb],fun _ _=>rfl⟩
theorem Env.aP (ρ:Env)(n g c:Nat):(ρ.up n g c).blk n=g:=by simp[Env.up]
theorem Env.bX (ρ:Env)(n g c:Nat):(ρ.up n g c).cap n=c:=by simp[Env.up]
theorem aO.quiet {w0:World}{ρ:Env}{W:AW}{w w':World}(h:aO w0 ρ W w)(hg:Gr w w' (fun _=>False)):Post w0 ρ W w ρ W w':=by
 have hB:Below w0.heap.size w0 w':=h.below.trans (hg.below h.below.size fun _ hf=>hf.elim)
 have hk:∀b k,au b W.bl=some k→w'.heap[ρ.blk b]? =w.heap[ρ.blk b]?:=fun b k hb=>hg.block _ (h.ok b k hb).2.2.2 id
 refine⟨Ext.refl _ _,zu _,fun _ h=>h,hg.mono fun _ _ hf=>hf.elim,fun b h1 h2=>by omega,⟨hB,fun b k hb=>?_,h.inj,fun b k hb=>(h.rep b k hb).heap (hk b k hb),h.kN,h.gl⟩,fun _ _ h=>h,fun _ _ h=>.inl h,rfl⟩
 obtain⟨h1,h2,h3,h4⟩:=h.ok b k hb
 exact⟨h1,h2,h3,zq h4 hg.size⟩
theorem aO.xA {w0:World}{ρ:Env}{W:AW}{w:World}(h:aO w0 ρ W w){p:Nat×aF}(hp:p∈W.bl):p.1 < W.nx:=(h.ok p.1 p.2 (ed h.kN hp)).1
theorem aO.Rx {w0:World}{ρ:Env}{W:AW}{w:World}(h:aO w0 ρ W w)(k:aF):(((W.nx,k)::W.bl).map (·.1)).Nodup:=by
 rw[List.map_cons,List.nodup_cons]
 refine⟨fun hm=>?_,h.kN⟩
 obtain⟨p,hp,e⟩:=List.mem_map.1 hm
 have:=h.xA hp
 omega
def iD (b:Nat):List Nat→Bool
 |[]=>false
 |x::l=>cond (Nat.beq x b) true (iD b l)
theorem oC {b:Nat}:∀{l:List Nat},iD b l=false→b ∉ l
 |[],_=>by simp
 |x::l,h=>by
  by_cases hx:x=b
  ·subst hx
   simp[iD] at h
  ·simp only[iD,iB hx,cond_false] at h
   intro hm
   rcases List.mem_cons.1 hm with rfl | hm
   ·exact hx rfl
   ·exact oC h hm
theorem iO {b:Nat}:∀{l:List Nat},iD b l=true→b∈l
 |x::l,h=>by
  by_cases hx:x=b
  ·subst hx;exact zn
  ·simp only[iD,iB hx,cond_false] at h
   exact zm _ (iO h)
def addN (b:Nat)(l:List Nat):List Nat:=cond (iD b l) l (b::l)
theorem dD (b x:Nat)(l:List Nat):x∈addN b l↔x=b∨x∈l:=by
 unfold addN
 cases h:iD b l
 ·simp
 ·simp only[cond_true]
  exact⟨.inr,fun e=>e.elim (fun e=>e ▸ iO h) id⟩
theorem aO.new {w0:World}{ρ:Env}{W:AW}{w w':World}{g c:Nat}{k:aF}(h:aO w0 ρ W w)(hg:Gr w w' (fun _=>False))(h1:w.heap.size≤g)(h2:g < w'.heap.size)(hk:k.ok W.nx)(hr:k.rep (ρ.up W.nx g c) w' W.nx):
 Post w0 ρ W w (ρ.up W.nx g c) ⟨W.nx+1,(W.nx,k)::W.bl,W.az,W.gl⟩ w':=by
 have hB:Below w0.heap.size w0 w':=h.below.trans (hg.below h.below.size fun _ hf=>hf.elim)
 have he:=Env.fM ρ W.nx g c
 have hne:∀b k',au b W.bl=some k'→W.nx≠b:=fun b k' hb e=>by have:=(h.ok b k' hb).1;omega
 have hget:∀b k',au b ((W.nx,k)::W.bl)=some k'→(b=W.nx∧k'=k)∨(b < W.nx∧au b W.bl=some k'):=fun b k' hb=>by
  by_cases e:W.nx=b
  ·subst e
   rw[aC] at hb
   exact .inl ⟨rfl,(zx hb).symm⟩
  ·rw[aI _ _ e] at hb
   exact .inr ⟨(h.ok b k' hb).1,hb⟩
 refine⟨he,Nat.le_succ _,fun _ h=>h,hg.mono fun _ _ hf=>hf.elim,fun b q1 q2 q3=>?_,⟨hB,fun b k' hb=>?_,fun b b' k1 k2 hb hb' e=>?_,fun b k' hb=>?_,h.Rx k,h.gl⟩,fun b hb hs=>?_,fun _ _ h=>.inl h,rfl⟩
 ·have:b=W.nx:=by have:b < W.nx+1:=q2;omega
  subst this
  rw[Env.aP] at q3
  omega
 ·rcases hget b k' hb with⟨rfl,rfl⟩ | ⟨hlt,hb⟩
  ·refine⟨Nat.lt_succ_self _,aF.ok.mono (Nat.le_succ _) hk,?_,?_⟩
   ·rw[Env.aP];exact zt h.below.size h1
   ·rw[Env.aP];exact h2
  ·obtain⟨q1,q2,q3,q4⟩:=h.ok b k' hb
   rw[he.blk b hlt]
   exact⟨Nat.lt_succ_of_lt q1,aF.ok.mono (Nat.le_succ _) q2,q3,zq q4 hg.size⟩
 ·rcases hget b k1 hb with⟨rfl,rfl⟩ | ⟨hlt,hb1⟩ <;> rcases hget b' k2 hb' with⟨rfl,rfl⟩ | ⟨hlt',hb1'⟩
  ·rfl
  ·rw[Env.aP,he.blk b' hlt'] at e
   have:=(h.ok b' k2 hb1').2.2.2
   omega
  ·rw[Env.aP,he.blk b hlt] at e
   have:=(h.ok b k1 hb1).2.2.2
   omega
  ·rw[he.blk b hlt,he.blk b' hlt'] at e
   exact h.inj b b' k1 k2 hb1 hb1' e
 ·rcases hget b k' hb with⟨rfl,rfl⟩ | ⟨hlt,hb⟩
  ·exact hr
  ·refine aF.sH ?_ he hlt (h.ok b k' hb).2.1 (h.rep b k' hb)
   exact hg.block _ (h.ok b k' hb).2.2.2 id
 ·rwa [aI _ _ (fun e=>by omega)] at hs
theorem aO.write {w0:World}{ρ:Env}{W:AW}{w w':World}{b0:Nat}{k0 k:aF}(h:aO w0 ρ W w)(hb0:au b0 W.bl=some k0)(hg:Gr w w' (fun i=>ρ.blk b0=i))(hk:k.ok W.nx)(hr:k.rep ρ w' b0):
 Post w0 ρ W w ρ ⟨W.nx,gF b0 k W.bl,addN b0 W.az,W.gl⟩ w':=by
 obtain⟨p1,p2,p3,p4⟩:=h.ok b0 k0 hb0
 have hB:Below w0.heap.size w0 w':=h.below.trans (hg.below h.below.size fun i e=>by subst e;exact p3)
 have hget:∀b k',au b (gF b0 k W.bl)=some k'→(b=b0∧k'=k)∨(b≠b0∧au b W.bl=some k'):=fun b k' hb=>by
  by_cases e:b0=b
  ·subst e
   rw[nP k W.bl hb0] at hb
   exact .inl ⟨rfl,(zx hb).symm⟩
  ·rw[mF k e] at hb
   exact .inr ⟨fun e'=>e e'.symm,hb⟩
 have hdom:∀b k',au b (gF b0 k W.bl)=some k'→∃k'',au b W.bl=some k'':=fun b k' hb=>by
  rcases hget b k' hb with⟨rfl,_⟩ | ⟨_,hb⟩
  ·exact⟨_,hb0⟩
  ·exact⟨_,hb⟩
 refine⟨Ext.refl _ _,zu _,fun _ h=>(dD _ _ _).2 (.inr h),hg.mono fun i _ e=>⟨b0,(dD _ _ _).2 (.inl rfl),p1,e⟩,fun b q1 q2=>by have:b < W.nx:=q2;omega,⟨hB,fun b k' hb=>?_,fun b b' k1 k2 hb hb' e=>?_,fun b k' hb=>?_,by rw[Ca];exact h.kN,h.gl⟩,fun b _ hs=>?_,fun b _ hm=>?_,rfl⟩
 ·rcases hget b k' hb with⟨rfl,rfl⟩ | ⟨_,hb⟩
  ·exact⟨p1,hk,p3,zq p4 hg.size⟩
  ·obtain⟨q1,q2,q3,q4⟩:=h.ok b k' hb
   exact⟨q1,q2,q3,zq q4 hg.size⟩
 ·obtain⟨_,e1⟩:=hdom b k1 hb
  obtain⟨_,e2⟩:=hdom b' k2 hb'
  exact h.inj b b' _ _ e1 e2 e
 ·rcases hget b k' hb with⟨rfl,rfl⟩ | ⟨hne,hb⟩
  ·exact hr
  ·exact (h.rep b k' hb).heap (hg.block _ (h.ok b k' hb).2.2.2 fun e=>hne (h.inj b0 b _ _ hb0 hb e).symm)
 ·obtain⟨k',hk'⟩:=Option.isSome_iff_exists.1 hs
  obtain⟨_,e⟩:=hdom b k' hk'
  rw[e];rfl
 ·rcases (dD _ _ _).1 hm with rfl | hm
  ·exact .inr (by rw[hb0];rfl)
  ·exact .inl hm
theorem aO.turn {w0:World}{ρ:Env}{W:AW}{w w':World}{b0 g c:Nat}{k0 k:aF}(h:aO w0 ρ W w)(hb0:au b0 W.bl=some k0)(hg:Gr w w' (fun i=>ρ.blk b0=i))(h1:g=ρ.blk b0∨w.heap.size≤g)(h2:g < w'.heap.size)(hk:k.ok W.nx)(hr:k.rep (ρ.up W.nx g c) w' W.nx):
 Post w0 ρ W w (ρ.up W.nx g c) ⟨W.nx+1,(W.nx,k)::rO b0 W.bl,addN b0 W.az,W.gl⟩ w':=by
 obtain⟨p1,p2,p3,p4⟩:=h.ok b0 k0 hb0
 have hB:Below w0.heap.size w0 w':=h.below.trans (hg.below h.below.size fun i e=>by subst e;exact p3)
 have he:=Env.fM ρ W.nx g c
 have hget:∀b k',au b ((W.nx,k)::rO b0 W.bl)=some k'→(b=W.nx∧k'=k)∨(b < W.nx∧b≠b0∧au b W.bl=some k'):=fun b k' hb=>by
  by_cases e:W.nx=b
  ·subst e
   rw[aC] at hb
   exact .inl ⟨rfl,(zx hb).symm⟩
  ·rw[aI _ _ e] at hb
   obtain⟨q1,q2⟩:=iK h.kN hb
   exact .inr ⟨(h.ok b k' q2).1,q1,q2⟩
 have hkeep:∀b k',b≠b0→au b W.bl=some k'→ρ.blk b0≠ρ.blk b:=fun b k' hne hb e=>hne (h.inj b0 b _ _ hb0 hb e).symm
 refine⟨he,Nat.le_succ _,fun _ h=>(dD _ _ _).2 (.inr h),hg.mono fun i _ e=>⟨b0,(dD _ _ _).2 (.inl rfl),p1,e⟩,fun b q1 q2 q3=>?_,⟨hB,fun b k' hb=>?_,fun b b' k1 k2 hb hb' e=>?_,fun b k' hb=>?_,?_,h.gl⟩,fun b hb hs=>?_,fun b _ hm=>?_,rfl⟩
 ·have:b=W.nx:=by have:b < W.nx+1:=q2;omega
  subst this
  rw[Env.aP] at q3 ⊢
  rcases h1 with h1 | h1
  ·exact⟨b0,(dD _ _ _).2 (.inl rfl),p1,h1.symm⟩
  ·omega
 ·rcases hget b k' hb with⟨rfl,rfl⟩ | ⟨hlt,hne,hb⟩
  ·refine⟨Nat.lt_succ_self _,aF.ok.mono (Nat.le_succ _) hk,?_,?_⟩
   ·rw[Env.aP]
    rcases h1 with h1 | h1
    ·rw[h1];exact p3
    ·exact zt h.below.size h1
   ·rw[Env.aP];exact h2
  ·obtain⟨q1,q2,q3,q4⟩:=h.ok b k' hb
   rw[he.blk b hlt]
   exact⟨Nat.lt_succ_of_lt q1,aF.ok.mono (Nat.le_succ _) q2,q3,zq q4 hg.size⟩
 ·have far:∀b k',b < W.nx→b≠b0→au b W.bl=some k'→g≠ρ.blk b:=fun b k' _ hne hb e=>by
   rcases h1 with h1 | h1
   ·exact hkeep b k' hne hb (h1.symm.trans e)
   ·have:=(h.ok b k' hb).2.2.2
    omega
  rcases hget b k1 hb with⟨rfl,rfl⟩ | ⟨hlt,hne,hb1⟩ <;> rcases hget b' k2 hb' with⟨rfl,rfl⟩ | ⟨hlt',hne',hb1'⟩
  ·rfl
  ·rw[Env.aP,he.blk b' hlt'] at e
   exact (far b' k2 hlt' hne' hb1' e).elim
  ·rw[Env.aP,he.blk b hlt] at e
   exact (far b k1 hlt hne hb1 e.symm).elim
  ·rw[he.blk b hlt,he.blk b' hlt'] at e
   exact h.inj b b' k1 k2 hb1 hb1' e
 ·rcases hget b k' hb with⟨rfl,rfl⟩ | ⟨hlt,hne,hb⟩
  ·exact hr
  ·refine aF.sH ?_ he hlt (h.ok b k' hb).2.1 (h.rep b k' hb)
   exact hg.block _ (h.ok b k' hb).2.2.2 (hkeep b k' hne hb)
 ·have hs:=rM b0 W.bl
  rw[List.map_cons,List.nodup_cons]
  refine⟨fun hm=>?_,(hs.map _).nodup h.kN⟩
  obtain⟨p,hp,e⟩:=List.mem_map.1 hm
  have:=h.xA (hs.subset hp)
  omega
 ·rw[aI _ _ (fun e=>by omega)] at hs
  obtain⟨k',hk'⟩:=Option.isSome_iff_exists.1 hs
  rw[(iK h.kN hk').2];rfl
 ·rcases (dD _ _ _).1 hm with rfl | hm
  ·exact .inr (by rw[hb0];rfl)
  ·exact .inl hm
theorem aO.kill {w0:World}{ρ:Env}{W:AW}{w w':World}{b0:Nat}{k0:aF}(h:aO w0 ρ W w)(hb0:au b0 W.bl=some k0)(hg:Gr w w' (fun i=>ρ.blk b0=i)):
 Post w0 ρ W w ρ ⟨W.nx,rO b0 W.bl,addN b0 W.az,W.gl⟩ w':=by
 obtain⟨p1,p2,p3,p4⟩:=h.ok b0 k0 hb0
 have hB:Below w0.heap.size w0 w':=h.below.trans (hg.below h.below.size fun i e=>by subst e;exact p3)
 refine⟨Ext.refl _ _,zu _,fun _ h=>(dD _ _ _).2 (.inr h),hg.mono fun i _ e=>⟨b0,(dD _ _ _).2 (.inl rfl),p1,e⟩,fun b q1 q2=>by have:b < W.nx:=q2;omega,⟨hB,fun b k' hb=>?_,fun b b' k1 k2 hb hb' e=>?_,fun b k' hb=>?_,?_,h.gl⟩,fun b _ hs=>?_,fun b _ hm=>?_,rfl⟩
 ·obtain⟨q1,q2,q3,q4⟩:=h.ok b k' (iK h.kN hb).2
  exact⟨q1,q2,q3,zq q4 hg.size⟩
 ·exact h.inj b b' _ _ (iK h.kN hb).2 (iK h.kN hb').2 e
 ·obtain⟨hne,hb⟩:=iK h.kN hb
  exact (h.rep b k' hb).heap (hg.block _ (h.ok b k' hb).2.2.2 fun e=>hne (h.inj b0 b _ _ hb0 hb e).symm)
 ·exact ((rM b0 W.bl).map _).nodup h.kN
 ·obtain⟨k',hk'⟩:=Option.isSome_iff_exists.1 hs
  rw[(iK h.kN hk').2];rfl
 ·rcases (dD _ _ _).1 hm with rfl | hm
  ·exact .inr (by rw[hb0];rfl)
  ·exact .inl hm
theorem aO.drop {w0:World}{ρ:Env}{W:AW}{w:World}(h:aO w0 ρ W w)(bl:List (Nat×aF))(hb:bl.Sublist W.bl):aO w0 ρ ⟨W.nx,bl,W.az,W.gl⟩ w:=
 ⟨h.below,fun b k hk=>h.ok b k (jP h.kN hb hk),fun b b' k k' h1 h2=>h.inj b b' k k' (jP h.kN hb h1) (jP h.kN hb h2),fun b k hk=>h.rep b k (jP h.kN hb hk),(hb.map _).nodup h.kN,h.gl⟩
inductive Kd where
 |struct (fs:List (Nat×Nat×Nat))
 |array (n e sz:Nat)
 |slice (e sz bytes:Nat)
 |map (k e:Nat)
 |string
 |ptr (e:Nat)
 |int (k:IntKind)
 |Cr
 |func
 |other
structure aB where
 kd:Kd
 row:Bool
 size:Nat
 zero:List Value
abbrev bG:=Tr aB
def jV (P:Program)(t s:Nat):Bool:=(P.info? t).map (·.size) == some s
def BD (P:Program)(d:TypeDesc):Kd→Bool
 | .struct fs=>match d with | .struct fields=>(fields.toList.map fun f=>(f.offset,f.type)) == (fs.map fun x=>(x.1,x.2.1)) && fs.all (fun x=>jV P x.2.1 x.2.2 && decide (0 < x.2.2)) | _=>false
 | .array n e sz=>match d with | .array n' e'=>n' == n && e' == e && jV P e sz | _=>false
 | .slice e sz rT=>match d with | .slice e'=>e' == e && jV P e sz && (P.info? e).map (·.bytes) == some rT && decide (0 < sz) | _=>false
 | .map k e=>match d with | .map k' e'=>k' == k && e' == e | _=>false
 | .string=>match d with | .string=>true | _=>false
 | .ptr e=>match d with | .pointer e'=>e' == e | _=>false
 | .int k=>match d with | .int k'=>k' == k | _=>false
 | .Cr=>match d with | .unsafePointer=>true | _=>false
 | .func=>match d with | .func .. =>true | _=>false
 | .other=>match d with | .interface _=>false | _=>true
structure mO (P:Program)(t:Nat)(i:aB):Prop where
 under:∃d,P.underlying t=some d∧d.isRow=i.row∧BD P d i.kd=true
 info:∃f z,P.info? t=some f∧f.size=i.size∧f.zero=some z∧z.cells.toList=i.zero
 one:i.row=false→∃f z,P.info? t=some f∧f.zero=some z∧i.zero=[z]
 agg:i.row=true→∃f,P.info? t=some f∧f.zero=some (.agg i.zero.toArray)
def aW (P:Program)(T:bG):Prop:=∀t i,T.get t=some i→mO P t i
section
variable {P:Program} {t:Nat} {i:aB}
theorem mO.size (h:mO P t i):(P.info? t).map (·.size)=some i.size:=by
 obtain⟨f,z,h1,h2,_⟩:=h.info
 rw[h1,Option.map_some,h2]
theorem mO.sizeOf (h:mO P t i)(w:World):(Go.sizeOf t).run P w= .ok i.size w:=by
 obtain⟨f,z,h1,h2,_⟩:=h.info
 simp[Go.sizeOf,typeInfo,h1,h2]
theorem fG {s:Nat}(h:jV P t s=true)(w:World):(Go.sizeOf t).run P w= .ok s w:=by
 unfold jV at h
 cases hq:P.info? t with
 |none=>simp[hq] at h
 |some f=>simp[hq] at h;simp[Go.sizeOf,typeInfo,hq,h]
theorem mO.struct (h:mO P t i){fs:List (Nat×Nat×Nat)}(hk:i.kd= .struct fs):∃fields,P.underlying t=some (.struct fields)∧fields.toList.map (fun f=>(f.offset,f.type))=fs.map (fun x=>(x.1,x.2.1))∧∀x∈fs,jV P x.2.1 x.2.2=true∧0 < x.2.2:=by
 obtain⟨d,h1,_,h3⟩:=h.under
 rw[hk] at h3
 cases d <;> simp only[BD,Bool.false_eq_true] at h3
 simp only[Bool.and_eq_true,beq_iff_eq,List.all_eq_true,decide_eq_true_eq] at h3
 exact⟨_,h1,h3.1,h3.2⟩
theorem mO.slice (h:mO P t i){e sz rT:Nat}(hk:i.kd= .slice e sz rT):P.underlying t=some (.slice e)∧jV P e sz=true∧(P.info? e).map (·.bytes)=some rT∧0 < sz:=by
 obtain⟨d,h1,_,h3⟩:=h.under
 rw[hk] at h3
 cases d <;> simp only[BD,Bool.false_eq_true] at h3
 simp only[Bool.and_eq_true,beq_iff_eq,decide_eq_true_eq] at h3
 obtain⟨⟨⟨rfl,h4⟩,h5⟩,h6⟩:=h3
 exact⟨h1,h4,h5,h6⟩
theorem mO.array (h:mO P t i){n e sz:Nat}(hk:i.kd= .array n e sz):P.underlying t=some (.array n e)∧jV P e sz=true:=by
 obtain⟨d,h1,_,h3⟩:=h.under
 rw[hk] at h3
 cases d <;> simp only[BD,Bool.false_eq_true] at h3
 simp only[Bool.and_eq_true,beq_iff_eq] at h3
 obtain⟨⟨rfl,rfl⟩,h4⟩:=h3
 exact⟨h1,h4⟩
theorem mO.string (h:mO P t i)(hk:i.kd= .string):P.underlying t=some .string:=by
 obtain⟨d,h1,_,h3⟩:=h.under
 rw[hk] at h3
 cases d <;> simp only[BD,Bool.false_eq_true] at h3
 exact h1
theorem mO.ptr (h:mO P t i){e:Nat}(hk:i.kd= .ptr e):P.underlying t=some (.pointer e):=by
 obtain⟨d,h1,_,h3⟩:=h.under
 rw[hk] at h3
 cases d <;> simp only[BD,Bool.false_eq_true] at h3
 simp only[beq_iff_eq] at h3
 subst h3
 exact h1
theorem mO.int (h:mO P t i){k:IntKind}(hk:i.kd= .int k):P.underlying t=some (.int k):=by
 obtain⟨d,h1,_,h3⟩:=h.under
 rw[hk] at h3
 cases d <;> simp only[BD,Bool.false_eq_true] at h3
 simp only[beq_iff_eq] at h3
 subst h3
 exact h1
theorem mO.map (h:mO P t i){k e:Nat}(hk:i.kd= .map k e):P.underlying t=some (.map k e):=by
 obtain⟨d,h1,_,h3⟩:=h.under
 rw[hk] at h3
 cases d <;> simp only[BD,Bool.false_eq_true] at h3
 simp only[Bool.and_eq_true,beq_iff_eq] at h3
 obtain⟨rfl,rfl⟩:=h3
 exact h1
theorem mO.Cr (h:mO P t i)(hk:i.kd= .Cr):P.underlying t=some .unsafePointer:=by
 obtain⟨d,h1,_,h3⟩:=h.under
 rw[hk] at h3
 cases d <;> simp only[BD,Bool.false_eq_true] at h3
 exact h1
theorem mO.func (h:mO P t i)(hk:i.kd= .func):∃a b c,P.underlying t=some (.func a b c):=by
 obtain⟨d,h1,_,h3⟩:=h.under
 rw[hk] at h3
 cases d <;> simp only[BD,Bool.false_eq_true] at h3
 exact⟨_,_,_,h1⟩
theorem mO.aa5 (h:mO P t i):∃d,P.underlying t=some d∧∀ms,d≠ .interface ms:=by
 obtain⟨d,h1,_,h3⟩:=h.under
 refine⟨d,h1,fun ms e=>?_⟩
 subst e
 cases hk:i.kd <;> rw[hk] at h3 <;> simp[BD] at h3
theorem addr_add (b o j:Nat):(⟨b,o,none⟩:Addr).add j=⟨b,o+j,none⟩:=by
 unfold Addr.add
 split
 ·rename_i h;subst h;rfl
 ·rfl
theorem mY (h:mO P t i){fs:List (Nat×Nat×Nat)}(hk:i.kd= .struct fs){f:Nat}{x:Nat×Nat×Nat}(hf:fs[f]? =some x)(b o:Nat)(w:World):
 (Instr.fieldAt t (.pointer (some ⟨b,o,none⟩)) f).run P w= .ok (.pointer (some ⟨b,o+x.1,none⟩)) w:=by
 obtain⟨fields,h1,h2,h3⟩:=h.struct hk
 have hlt:f < fs.length:=(List.getElem?_eq_some_iff.1 hf).1
 have hl:fields.size=fs.length:=by have:=congrArg List.length h2;simpa using this
 have hx:=h3 x (List.mem_of_getElem? hf)
 have e2:(fields.toList.map (fun f=>(f.offset,f.type)))[f]? =(fs.map (fun x=>(x.1,x.2.1)))[f]?:=by rw[h2]
 rw[List.getElem?_map,List.getElem?_map,hf,Option.map_some] at e2
 cases hq:fields.toList[f]? with
 |none=>rw[hq] at e2;cases e2
 |some fd=>
  rw[hq] at e2
  have e3:fields[f]? =some fd:=by rw[← Array.getElem?_toList];exact hq
  simp only[Option.map_some,Option.some.injEq,Prod.mk.injEq] at e2
  have hs:=fG hx.1 w
  rw[← e2.2] at hs
  have hne:¬x.2.2=0:=by omega
  simp[Instr.fieldAt,run_underlying h1,e3,Instr.sureAddr,fieldPlace,hs,hne,e2.1,addr_add]
theorem wL (h:mO P t i){e sz rT:Nat}(hk:i.kd= .slice e sz rT){n c j:Nat}(hj:j < n)(k:IntKind)(b o:Nat)(w:World):
 (Instr.indexAt t (.slice (some ⟨b,o,none⟩) n c) (.int k (j:Int))).run P w= .ok (.pointer (some ⟨b,o+j * sz,none⟩)) w:=by
 obtain⟨h1,h2,_,_⟩:=h.slice hk
 have hs:=fG h2 w
 simp[Instr.indexAt,asIntOf,run_underlying h1,hj,hs,addr_add]
theorem o5 (h:mO P t i){n e sz:Nat}(hk:i.kd= .array n e sz){j:Nat}(hj:j < n)(k:IntKind)(b o:Nat)(w:World):
 (Instr.indexAt t (.pointer (some ⟨b,o,none⟩)) (.int k (j:Int))).run P w= .ok (.pointer (some ⟨b,o+j * sz,none⟩)) w:=by
 obtain⟨h1,h2⟩:=h.array hk
 have hs:=fG h2 w
 simp[Instr.indexAt,asIntOf,run_underlying h1,hj,hs,Instr.sureAddr,addr_add]
end
def gy:Value→AV
 | .bool b=>.bool b
 | .int k n=>.int k n
 | .string s=>.str (s.data.toList.map (·.toNat))
 | .pointer none=>.bY
 | .slice none 0 0=>.aX
 |v=>.raw v
theorem aht (s:ByteArray):aa (s.data.toList.map (·.toNat))=s:=by
 unfold aa
 rw[List.map_map]
 have e:(UInt8.ofNat ∘ fun x:UInt8=>x.toNat)=id:=by funext x;simp
 rw[e,List.map_id]
theorem oN (ρ:Env)(v:Value):cv ρ (gy v)=v:=by
 unfold gy
 split <;> simp only[cv,aht]
theorem ma (n:Nat)(v:Value):(gy v).ok n:=by
 unfold gy
 split <;> trivial
def avD:Value→AV
 | .agg cs=>.agg (cs.toList.map gy)
 | .tuple vs=>.tuple (vs.toList.map fun v=>match v with | .agg cs=>.agg (cs.toList.map gy) | v=>gy v)
 |v=>gy v
theorem jO (ρ:Env)(l:List Value):aG ρ (l.map gy)=l:=by
 rw[bA,List.map_map]
 have e:(cv ρ ∘ gy)=id:=by funext v;simp[oN]
 rw[e,List.map_id]
theorem gI (n:Nat)(l:List Value):oks n (l.map gy):=(bO _ _).2 fun v hv=>by
 obtain⟨u,_,rfl⟩:=List.mem_map.1 hv
 exact ma n u
theorem acL (ρ:Env)(v:Value):cv ρ (avD v)=v:=by
 unfold avD
 split
 ·rw[cv,jO]
 ·rename_i vs
  rw[cv,bA,List.map_map]
  have e:(cv ρ ∘ fun v:Value=>match v with | .agg cs=>AV.agg (cs.toList.map gy) | v=>gy v)=id:=by
   funext v
   simp only[Function.comp_apply,id]
   split
   ·rw[cv,jO]
   ·exact oN ρ _
  rw[e,List.map_id]
 ·exact oN ρ _
theorem ac9 (n:Nat)(v:Value):(avD v).ok n:=by
 unfold avD
 split
 ·exact gI n _
 ·refine (bO _ _).2 fun v hv=>?_
  obtain⟨u,_,rfl⟩:=List.mem_map.1 hv
  split
  ·exact gI n _
  ·exact ma n _
 ·exact ma n _
def Oa (i:aB):Option AV:=cond i.row (some (.agg (i.zero.map gy))) (match i.zero with | [z]=>some (gy z) | _=>none)
theorem Ac {P:Program}{t:Nat}{i:aB}(h:mO P t i){v:AV}(hz:Oa i=some v)(ρ:Env)(n:Nat)(w:World):(zeroValue t).run P w= .ok (cv ρ v) w∧v.ok n:=by
 unfold Oa at hz
 cases hr:i.row with
 |true=>
  rw[hr] at hz
  obtain rfl:=zx hz
  obtain⟨f,hf,hfz⟩:=h.agg hr
  refine⟨?_,gI n _⟩
  simp[zeroValue,typeInfo,hf,hfz,cv,jO]
 |false=>
  rw[hr] at hz
  obtain⟨f,z,hf,hfz,hzz⟩:=h.one hr
  simp only[cond_false] at hz
  split at hz
  ·rename_i z' hz'
   obtain rfl:=zx hz
   obtain rfl:=(List.cons.inj (hz'.symm.trans hzz)).1
   refine⟨?_,ma n _⟩
   simp[zeroValue,typeInfo,hf,hfz,oN]
  ·cases hz
mutual
def gv:AV→Option Value
 | .raw v=>some v
 | .sym _ x=>some (.int .i64 x)
 | .bool b=>some (.bool b)
 | .int k n=>some (.int k n)
 | .str l=>some (.string (aa l))
 | .bY=>some (.pointer none)
 | .iV g o=>some (.pointer (some ⟨g,o,none⟩))
 | .aX=>some (.slice none 0 0)
 | .agg l=>(gvs l).map fun l=>.agg l.toArray
 | .tuple l=>(gvs l).map fun l=>.tuple l.toArray
 |_=>none
def gvs:List AV→Option (List Value)
 |[]=>some []
 |v::l=>match gv v with
  |some v=>(gvs l).map fun l=>v::l
  |none=>none
end
mutual
theorem aiN (ρ:Env):∀(v:AV) {u:Value},gv v=some u→cv ρ v=u
 | .raw _,_,h | .sym _ _,_,h | .bool _,_,h | .int _ _,_,h | .str _,_,h | .bY,_,h | .iV _ _,_,h | .aX,_,h=>by simp only[gv,Option.some.injEq] at h;rw[cv,h]
 | .agg l,u,h=>by
   simp only[gv,Option.map_eq_some_iff] at h
   obtain⟨l',h1,rfl⟩:=h
   rw[cv,DT ρ l h1]
 | .tuple l,u,h=>by
   simp only[gv,Option.map_eq_some_iff] at h
   obtain⟨l',h1,rfl⟩:=h
   rw[cv,DT ρ l h1]
 | .ptr _ _,_,h | .slice _ _ _ _ _,_,h | .zh _,_,h | .map _,_,h | .ug _,_,h | .rA _,_,h | .fn _ _ _,_,h | .iface _ _,_,h=>by simp[gv] at h
theorem DT (ρ:Env):∀(l:List AV) {u:List Value},gvs l=some u→aG ρ l=u
 |[],_,h=>by simp only[gvs,Option.some.injEq] at h;rw[aG,h]
 |v::l,u,h=>by
  simp only[gvs] at h
  split at h
  ·rename_i v' hv
   simp only[Option.map_eq_some_iff] at h
   obtain⟨l',h1,rfl⟩:=h
   rw[aG,aiN ρ v hv,DT ρ l h1]
  ·cases h
end
def FB (P:Program){α:Type}:Sem α→Option α
 | .pure a=>some a
 | .program k=>FB P (k P)
 | .mark _ k=>FB P k
 |_=>none
theorem wM {P:Program}{α:Type}:∀(s:Sem α) {a:α},FB P s=some a→∀w,s.run P w= .ok a w
 | .pure _,_,h,w=>by simp only[FB,Option.some.injEq] at h;rw[Sem.run,h]
 | .program k,_,h,w=>by simp only[FB] at h;rw[Sem.run];exact wM (k P) h w
 | .mark _ k,_,h,w=>by simp only[FB] at h;rw[Sem.run];exact wM k h w
 | .load ..,_,h,_ | .store ..,_,h,_ | .new ..,_,h,_ | .shape ..,_,h,_ | .freeze ..,_,h,_ | .frozen ..,_,h,_ | .getObj ..,_,h,_ | .setObj ..,_,h,_ | .choose ..,_,h,_ | .sys ..,_,h,_ | .halt _,_,h,_=>by simp[FB] at h
def dP (i:Nat)(t:TT):AV:=t.get i
def rC (ρ:Env):AV→Deferred
 | .ptr b _=>{ target:=.collected (ρ.blk b),args:=#[]}
 | .fn f l c=>{ target:=.fn f (aG ρ c).toArray,args:=(aG ρ l).toArray}
 |_=>{ target:=.nil,args:=#[]}
def uO (ρ:Env):AV→List Deferred
 | .rA l=>l.map (rC ρ)
 |_=>[]
structure aR (ρ:Env)(n N:Nat)(t:TT)(a:Act):Prop where
 size:a.tmps.size=N
 get:∀i,a.tmps.getD i undef=cv ρ (dP i t)
 ok:∀i,(dP i t).ok n
 defers:a.defers=uO ρ (dP N t)
def dO (d:Option Nat)(v:AV)(t:TT):TT:=match d with | some i=>TT.put 20 t i v | none=>t
def kT (N:Nat):Option Nat→Bool | some i=>Nat.blt i N && Nat.blt i 1048575 | none=>true
theorem kF {i:Nat}(h:i < 1048575)(t:TT)(v:AV)(j:Nat):dP j (TT.put 20 t i v)=if i=j then v else dP j t:=
 TT.gK 20 t i v j (by omega)
theorem aR.put {ρ:Env}{n N:Nat}{t:TT}{a:Act}(h:aR ρ n N t a){d:Option Nat}{v:AV}(hd:kT N d=true)(hv:v.ok n):aR ρ n N (dO d v t) (a.put d (cv ρ v)):=by
 cases d with
 |none=>exact h
 |some i=>
  have hd':i < N∧i < 1048575:=by simpa [kT,Nat.blt_eq] using hd
  obtain⟨hi,hi'⟩:=hd'
  have e:=kF hi' t v
  refine⟨by simp[Act.put,h.size],fun j=>?_,fun j=>?_,?_⟩
  ·show (a.tmps.setIfInBounds i (cv ρ v)).getD j undef=cv ρ (dP j (TT.put 20 t i v))
   rw[e]
   by_cases hij:i=j
   ·subst hij
    rw[if_pos rfl]
    simp[Array.getD,h.size,hi]
   ·rw[if_neg hij,← h.get j]
    simp only[Array.getD_eq_getD_getElem?]
    rw[Array.getElem?_setIfInBounds_ne hij]
  ·show (dP j (TT.put 20 t i v)).ok n
   rw[e]
   split
   ·exact hv
   ·exact h.ok j
  ·show a.defers=uO ρ (dP N (TT.put 20 t i v))
   rw[e,if_neg (by omega)]
   exact h.defers
theorem JY {n:Nat}{ρ ρ':Env}(he:Ext n ρ ρ'){v:AV}(hv:v.ok n):rC ρ' v=rC ρ v:=by
 cases v <;> simp only[rC]
 ·rw[he.blk _ hv]
 ·rw[cu he _ hv.1,cu he _ hv.2]
theorem BN {n:Nat}{ρ ρ':Env}(he:Ext n ρ ρ'){v:AV}(hv:v.ok n):uO ρ' v=uO ρ v:=by
 cases v <;> simp only[uO]
 exact List.map_congr_left fun x hx=>JY he ((bO n _).1 hv x hx)
theorem aR.mono {ρ ρ':Env}{n m N:Nat}{t:TT}{a:Act}(h:aR ρ n N t a)(he:Ext n ρ ρ')(hn:n≤m):aR ρ' m N t a:=
 ⟨h.size,fun i=>by rw[h.get i,iA he _ (h.ok i)],fun i=>AV.ok.mono hn _ (h.ok i),by rw[h.defers,BN he (h.ok N)]⟩
def ev (t:TT):Operand→AV
 | .tmp i=>dP i t
 | .const v=>avD v
 | .global g=>.iV g 0
 | .func f=>.fn (.func f) [] []
theorem aR.eval {ρ:Env}{n N:Nat}{t:TT}{a:Act}(h:aR ρ n N t a):∀x,a.eval x=cv ρ (ev t x)
 | .tmp i=>h.get i
 | .const v=>(acL ρ v).symm
 | .global _g=>rfl
 | .func _f=>rfl
theorem aR.fu {ρ:Env}{n N:Nat}{t:TT}{a:Act}(h:aR ρ n N t a):∀x,(ev t x).ok n
 | .tmp i=>h.ok i
 | .const v=>ac9 n v
 | .global _=>trivial
 | .func _=>⟨trivial,trivial⟩
def gev (t:TT)(x:Operand):Value:=match gv (ev t x) with | some v=>v | none=>undef
def asV:Op→Bool | .select .. =>true | _=>false
def yj (P:Program)(t:TT)(o:Oper):Option AV:=
 if asV o.op then none else
 if o.op.operands.toList.all (fun x=>(gv (ev t x)).isSome) then
  match FB P (execOp (gev t) o) with
  |some (.value v)=>some (avD v)
  |_=>none
 else none
theorem tC {P:Program}{t:TT}{o:Oper}{v:AV}(h:yj P t o=some v){ρ:Env}{n N:Nat}{a:Act}(ht:aR ρ n N t a)(w:World):
 (execOp a.eval o).run P w= .ok (.value (cv ρ v)) w∧v.ok n:=by
 unfold yj at h
 split at h
 ·cases h
 rename_i hs
 split at h
 ·rename_i hg
  have hc:execOp a.eval o=execOp (gev t) o:=by
   refine execOp_congr o (fun cs b e=>hs (by rw[e];rfl)) fun x hx=>?_
   have hx':=List.all_eq_true.1 hg x (by simpa using hx)
   rw[ht.eval x]
   unfold gev
   cases hq:gv (ev t x) with
   |none=>rw[hq] at hx';cases hx'
   |some u=>exact aiN ρ _ hq
  split at h
  ·rename_i u hr
   obtain rfl:=zx h
   rw[hc,wM _ hr w,acL]
   exact⟨rfl,ac9 n u⟩
  ·cases h
 ·cases h
theorem j4 (ρ:Env)(l:List AV)(j:Nat):(aG ρ l)[j]? =(l[j]?).map (cv ρ):=by rw[bA,List.getElem?_map]
theorem mZ {ρ:Env}{w:World}{b e:Nat}{vs:List AV}:∀{o:Option Nat},(aF.cells vs e o).rep ρ w b→∃cur:Array Value,w.heap[ρ.blk b]? =some (.cells cur e (0,0))∧∀(j:Nat) (v:AV),vs[j]? =some v→cur[j]? =some (cv ρ v)
 |none,h=>⟨_,h,fun j v hv=>by simp[j4,hv]⟩
 |some sz,⟨n,cur,h1,h2,h3,h4,h5,h6⟩=>⟨cur,h1,fun j v hv=>by
  have e1:(cur.toList.take (n * sz))[j]? =some (cv ρ v):=by rw[h6,j4,hv,Option.map_some]
  rw[List.getElem?_take] at e1
  split at e1
  ·rw[← Array.getElem?_toList];exact e1
  ·cases e1⟩
theorem qy {ρ:Env}{w:World}{b e:Nat}{vs:List AV}{o:Option Nat}(h:(aF.cells vs e o).rep ρ w b){j:Nat}{v:AV}(hv:vs[j]? =some v):w.cell? ⟨ρ.blk b,j,none⟩=some (cv ρ v):=by
 obtain⟨cur,h1,h2⟩:=mZ h
 have e1:=h2 j v hv
 simp only[World.cell?,h1]
 simpa using e1
def qQ (T:bG)(bl:List (Nat×aF))(e:Nat):AV→Option AV
 | .ptr b o=>match T.get e,au b bl with
   |some i,some (.cells vs _ _)=>if i.row then (if Nat.ble (o+i.size) vs.length then some (.agg ((vs.drop o).take i.size)) else none) else vs[o]?
   |_,_=>none
 |_=>none
theorem vG {n:Nat}{l:List AV}(h:oks n l){j:Nat}{v:AV}(hv:l[j]? =some v):v.ok n:=(bO n l).1 h v (List.mem_of_getElem? hv)
theorem jD {n:Nat}{l:List AV}(h:oks n l)(k:Nat):oks n (l.drop k):=(bO _ _).2 fun v hv=>(bO n l).1 h v (List.mem_of_mem_drop hv)
theorem gY {n:Nat}{l:List AV}(h:oks n l)(k:Nat):oks n (l.take k):=(bO _ _).2 fun v hv=>(bO n l).1 h v (List.mem_of_mem_take hv)
theorem bg {n:Nat}{l l':List AV}(h:oks n l)(h':oks n l'):oks n (l++l'):=(bO _ _).2 fun v hv=>by
 rcases List.mem_append.1 hv with hv | hv
 ·exact (bO n l).1 h v hv
 ·exact (bO n l').1 h' v hv
theorem oF {P:Program}{T:bG}(hT:aW P T){ρ:Env}{n:Nat}{bl:List (Nat×aF)}{w:World}{e:Nat}{x v:AV}(hr:∀b o,x= .ptr b o→∀k,au b bl=some k→k.ok n∧k.rep ρ w b)(h:qQ T bl e x=some v):
 (Instr.loadAt e (cv ρ x)).run P w= .ok (cv ρ v) w∧v.ok n:=by
 unfold qQ at h
 split at h
 case h_2=>cases h
 case h_1 b o=>
 split at h
 case h_2=>cases h
 case h_1 i vs e' op hi hb=>
 obtain⟨ho,hrep⟩:=hr b o rfl _ hb
 have hti:=hT e i hi
 obtain⟨d,hu,hd,_⟩:=hti.under
 rw[cv]
 split at h
 ·rename_i hrow
  split at h
  ·rename_i hle
   have aAR:=Nat.le_of_ble_eq_true hle
   obtain rfl:=zx h
   have hlen:((vs.drop o).take i.size).length=i.size:=by simp;omega
   refine⟨?_,gY (jD ho _) _⟩
   have:=run_loadAt_mid (P:=P) w (ρ.blk b) o e (aG ρ ((vs.drop o).take i.size)) d (fun j u hu=>?_) hu (by rw[hd,hrow]) (by rw[hti.size,ak,hlen])
   ·rw[this,cv]
   ·rw[j4] at hu
    cases hq:((vs.drop o).take i.size)[j]? with
    |none=>rw[hq] at hu;cases hu
    |some v0=>
     rw[hq] at hu
     obtain rfl:=zx hu
     refine qy hrep (j:=o+j) ?_
     rw[List.getElem?_take] at hq
     split at hq
     ·rw[List.getElem?_drop] at hq;exact hq
     ·cases hq
  ·cases h
 ·rename_i hrow
  refine⟨?_,vG ho h⟩
  have hc:=qy hrep h
  have hagg:(isAgg e).run P w= .ok false w:=by
   have hd':d.isRow=false:=by rw[hd];simpa using hrow
   unfold isAgg
   rw[Sem.run_bind,run_underlying hu w]
   cases d <;> simp_all [TypeDesc.isRow]
  simp[Instr.loadAt,Instr.sureAddr,loadVar,hagg,run_load,hc]
def RZ (T:bG)(gl:List (Nat×List Value))(e:Nat):AV→Option AV
 | .iV g o=>match T.get e,au g gl with
   |some i,some l=>cond i.row none ((l[o]?).map gy)
   |_,_=>none
 |_=>none
def EI (gl:List (Nat×List Value))(w:World):Prop:=∀g l,au g gl=some l→∀(j:Nat) (v:Value),l[j]? =some v→w.cell? ⟨g,j,none⟩=some v
theorem sO {P:Program}{T:bG}(hT:aW P T){ρ:Env}{n:Nat}{gl:List (Nat×List Value)}{w:World}{e:Nat}{x v:AV}(hg:EI gl w)(h:RZ T gl e x=some v):
 (Instr.loadAt e (cv ρ x)).run P w= .ok (cv ρ v) w∧v.ok n:=by
 unfold RZ at h
 split at h
 case h_2=>cases h
 case h_1 g o=>
 split at h
 case h_2=>cases h
 case h_1 i l hi hl=>
 cases hrow:i.row with
 |true=>rw[hrow] at h;cases h
 |false=>
 rw[hrow] at h
 simp only[cond_false] at h
 obtain⟨u,hu,rfl⟩:=Option.map_eq_some_iff.1 h
 obtain⟨d,hud,hd,_⟩:=(hT e i hi).under
 have hc:=hg g l hl o u hu
 refine⟨?_,ma n u⟩
 rw[oN,cv]
 have hagg:(isAgg e).run P w= .ok false w:=by
  have hd':d.isRow=false:=by rw[hd];exact hrow
  unfold isAgg
  rw[Sem.run_bind,run_underlying hud w]
  cases d <;> simp_all [TypeDesc.isRow]
 simp[Instr.loadAt,Instr.sureAddr,loadVar,hagg,run_load,hc]
theorem aO.Vh {w0:World}{ρ:Env}{W:AW}{w:World}(h:aO w0 ρ W w):EI W.gl w:=fun g l hg j v hv=>by
 have h0:=h.gl g l hg j v hv
 have hlt:g < w0.heap.size:=by
  rcases Nat.lt_or_ge g w0.heap.size with h1 | h1
  ·exact h1
  ·rw[World.cell?,Array.getElem?_eq_none h1] at h0;cases h0
 have e:=h.below.block g hlt
 simp only[World.cell?,e] at h0 ⊢
 exact h0
def qH:AV→Bool
 | .raw v=>v.oneCell'
 | .agg _=>false
 | .tuple _=>false
 | .rA _=>false
 |_=>true
theorem Bf {v:AV}(h:qH v=true)(ρ:Env):(cv ρ v).oneCell'=true:=by
 cases v <;> first | exact h | (simp[qH] at h;done) | (simp only[cv];rfl)
def dI:AV→List AV
 | .agg l=>l
 |v=>[v]
theorem lZ {v:AV}(h:(dI v).all qH=true)(ρ:Env):(cv ρ v).cells.toList=aG ρ (dI v):=by
 cases v with
 |agg l=>simp[dI,cv,Value.cells]
 |raw u=>
  have hu:u.oneCell'=true:=by simpa [dI,qH] using h
  have:u.cells=#[u]:=by cases u <;> first | rfl | (simp[Value.oneCell'] at hu;done)
  simp[dI,cv,aG,this]
 |tuple l=>simp[dI,qH] at h
 |rA l=>simp[dI,qH] at h
 |_=>simp[dI,cv,aG,Value.cells]
theorem tN {v:AV}{n:Nat}(h:v.ok n):oks n (dI v):=by
 cases v with
 |agg l=>exact h
 |_=>exact⟨h,trivial⟩
theorem NN {v:AV}(h:(dI v).all qH=true)(ρ:Env):∀u∈aG ρ (dI v),u.oneCell'=true:=fun u hu=>by
 rw[bA] at hu
 obtain⟨x,hx,rfl⟩:=List.mem_map.1 hu
 exact Bf (List.all_eq_true.1 h x hx) ρ
def Cw (T:bG)(bl:List (Nat×aF))(e:Nat)(y:AV):AV→Option (Nat×aF)
 | .ptr b o=>match T.get e,au b bl with
   |some i,some (.cells vs e' op)=>
    let cs:=dI y
    if cs.all qH && Nat.beq cs.length i.size && Nat.ble (o+i.size) vs.length then some (b,.cells (vs.take o++cs++vs.drop (o+i.size)) e' op) else none
   |_,_=>none
 |_=>none
theorem wB {α:Type}(l cs:List α)(o m:Nat)(h:o+cs.length≤m)(hm:m≤l.length):(l.take o++cs++l.drop (o+cs.length)).take m=(l.take m).take o++cs++(l.take m).drop (o+cs.length):=by
 have h1:(l.take o).length=o:=by simp;omega
 have e1:(l.take o).take m=l.take o:=List.take_of_length_le (by rw[h1];omega)
 have e2:cs.take (m - o)=cs:=List.take_of_length_le (by omega)
 have e3:(l.take m).take o=l.take o:=by rw[List.take_take,Nat.min_eq_left (by omega)]
 rw[List.take_append,List.take_append,List.length_append,h1,e1,e2,e3,List.drop_take]
theorem Li {P:Program}{T:bG}(hT:aW P T){w0:World}{ρ:Env}{W:AW}{w:World}(hW:aO w0 ρ W w){e b:Nat}{x y:AV}{k:aF}(h:Cw T W.bl e y x=some (b,k))(hy:y.ok W.nx):
 ∃w',(Instr.storeAt e (cv ρ x) (cv ρ y)).run P w= .ok () w'∧Post w0 ρ W w ρ ⟨W.nx,gF b k W.bl,addN b W.az,W.gl⟩ w':=by
 unfold Cw at h
 split at h
 case h_2=>cases h
 case h_1 b' o=>
 split at h
 case h_2=>cases h
 case h_1 i vs e' op hi hb=>
 simp only at h
 split at h
 case isFalse=>cases h
 case isTrue hc=>
 simp only[Bool.and_eq_true] at hc
 obtain⟨⟨hone,hlen⟩,hle⟩:=hc
 have hlen:=(beq_iff _ _).1 hlen
 have hle:=Nat.le_of_ble_eq_true hle
 obtain⟨rfl,rfl⟩:=zw (zx h)
 obtain⟨p1,p2,p3,p4⟩:=hW.ok _ _ hb
 have hti:=hT e i hi
 obtain⟨cur,mM,hcell⟩:=mZ (hW.rep _ _ hb)
 have hvl:vs.length≤cur.size:=by
  rcases Nat.lt_or_ge cur.size vs.length with hlt | hge
  ·have:=hcell cur.size _ (List.getElem?_eq_getElem hlt)
   simp at this
  ·exact hge
 have hst:=run_storeCells_at P (ρ.blk b') o e' (aG ρ (dI y)) 0 cur w mM (by rw[ak];omega) (NN hone ρ)
 have hcells:=lZ hone ρ
 obtain⟨row,hrow⟩:∃row,(cur.toList.take (o+0)++aG ρ (dI y)++cur.toList.drop (o+0+(aG ρ (dI y)).length)).toArray=row:=⟨_,rfl⟩
 rw[hrow] at hst
 have hh:=setRow_heap w (ρ.blk b') cur row e' (0,0) mM
 refine⟨w.setRow (ρ.blk b') row,?_,hW.write hb ⟨rfl,rfl,rfl,by simp,fun j _ hj=>?_⟩ (bg (bg (gY p2 _) (tN hy)) (jD p2 _)) ?_⟩
 ·have hsz:(cv ρ y).cells.size=i.size:=by rw[← Array.length_toList,hcells,ak,hlen]
  simp[Instr.storeAt,cv,Instr.sureAddr,storeVar,hti.sizeOf,hsz,hcells,hst]
 ·simp only[World.setRow]
  rw[Array.getElem?_modify,if_neg hj]
 ·cases op with
  |none=>
   have hc:w.heap[ρ.blk b']? =some (.cells (aG ρ vs).toArray e' (0,0)):=hW.rep _ _ hb
   rw[mM] at hc
   have hcv:cur=(aG ρ vs).toArray:=by injection (zx hc)
   show _=_
   rw[hh,← hrow]
   subst hcv
   simp[bA,hlen,List.map_append,List.map_take,List.map_drop]
  |some sz=>
   obtain⟨n,cur',q1,q2,q3,q4,q5,q6⟩:=hW.rep _ _ hb
   rw[mM] at q1
   have hcc:cur=cur':=by injection (zx q1)
   subst hcc
   refine⟨n,row,hh,q2,q3,?_,?_,?_⟩
   ·rw[← hrow]
    simp[ak];omega
   ·simp;omega
   ·have e1:=wB cur.toList (aG ρ (dI y)) o (n * sz) (by rw[ak];omega) (by rw[Array.length_toList,q4];exact Nat.mul_le_mul_right _ q2)
    rw[← hrow]
    simp only[Nat.add_zero]
    rw[e1,q6]
    simp[bA,hlen,List.map_append,List.map_take,List.map_drop]
def AW.push (W:AW)(k:aF):AW:=⟨W.nx+1,(W.nx,k)::W.bl,W.az,W.gl⟩
theorem jJ (w:World)(o:Obj):Gr w (w.alloc o) (fun _=>False):=⟨rfl,rfl,rfl,by simp,fun i hi _=>Below.heap_alloc w o i hi⟩
theorem aO.row {w0:World}{ρ:Env}{W:AW}{w:World}(h:aO w0 ρ W w){vs:List AV}(ho:oks W.nx vs)(e:Nat):
 Post w0 ρ W w (ρ.up W.nx w.heap.size 0) (W.push (.cells vs e none)) (w.alloc (.cells (aG ρ vs).toArray e)):=by
 refine h.new (jJ w _) (zu _) (by simp) ho ?_
 show _=_
 rw[Env.aP,cu (Env.fM ρ W.nx w.heap.size 0) vs ho]
 exact heap_alloc_new w _
def jM (place:Nat→Option (Nat×Nat))(cells:List AV):List (Nat×AV)→Option (List AV)
 |[]=>some cells
 |(i,v)::rest=>match place i with
  |none=>none
  |some (off,size)=>
   if (dI v).all qH && Nat.beq (dI v).length size && Nat.ble (off+size) cells.length then jM place (cells.take off++dI v++cells.drop (off+size)) rest else none
theorem foldl_set (vs:List Value):∀(off:Nat) (cells:Array Value),off+vs.length≤cells.size→
 (vs.zipIdx.foldl (fun cs (x:Value×Nat)=>cs.setIfInBounds (off+x.2) x.1) cells).toList=cells.toList.take off++vs++cells.toList.drop (off+vs.length):=by
 have key:∀(vs:List Value) (k off:Nat) (cells:Array Value),off+k+vs.length≤cells.size→
  ((vs.zipIdx k).foldl (fun cs (x:Value×Nat)=>cs.setIfInBounds (off+x.2) x.1) cells).toList=cells.toList.take (off+k)++vs++cells.toList.drop (off+k+vs.length):=by
  intro vs
  induction vs with
  |nil=>intro k off cells _;simp
  |cons v rest ih=>
   intro k off cells h
   rw[List.zipIdx_cons,List.foldl_cons,ih (k+1) off _ (by simp at h ⊢;omega)]
   have h1:off+k < cells.toList.length:=by simp at h ⊢;omega
   simp only[Array.toList_setIfInBounds,List.length_cons]
   rw[show off+(k+1)=off+k+1 by omega,show off+k+1+rest.length=off+k+(rest.length+1) by omega]
   rw[List.drop_set,if_pos (by omega),List.take_set,List.take_succ_eq_append_getElem h1,List.set_append_right _ _ (by simp;omega)]
   have:off+k - (cells.toList.take (off+k)).length=0:=by simp;omega
   rw[this]
   simp
 intro off cells h
 have:=key vs 0 off cells (by omega)
 simpa using this
theorem kW {ρ:Env}{place:Nat→Option (Nat×Nat)}:∀(parts:List (Nat×AV)) (cells:List AV) {out:List AV},jM place cells parts=some out→
 Instr.fill place (aG ρ cells).toArray (parts.map fun x=>(x.1,cv ρ x.2))=some (aG ρ out).toArray
 |[],cells,out,h=>by
  simp only[jM,Option.some.injEq] at h
  subst h
  rfl
 |(i,v)::rest,cells,out,h=>by
  simp only[jM] at h
  split at h
  ·cases h
  rename_i off size hp
  split at h
  ·rename_i hc
   simp only[Bool.and_eq_true] at hc
   obtain⟨⟨hone,hlen⟩,hle⟩:=hc
   have hlen:=(beq_iff _ _).1 hlen
   have hle:=Nat.le_of_ble_eq_true hle
   have ih:=kW (ρ:=ρ) rest _ h
   have hcl:=lZ hone ρ
   have hsz:(cv ρ v).cells.size=size:=by rw[← Array.length_toList,hcl,ak,hlen]
   have hnot:¬(off+(cv ρ v).cells.size > (aG ρ cells).toArray.size):=by simp[hsz,ak];omega
   simp only[List.map_cons,Instr.fill,hp,hsz]
   rw[if_neg (by simp[ak];omega)]
   rw[← ih]
   congr 1
   apply Array.ext'
   have ab0:=foldl_set (cv ρ v).cells.toList off (aG ρ cells).toArray (by simp[hsz,ak];omega)
   have e1:(Array.foldl (fun cs (x:Value×Nat)=>match x with | (c,j)=>cs.setIfInBounds (off+j) c) (aG ρ cells).toArray (cv ρ v).cells.zipIdx)=((cv ρ v).cells.toList.zipIdx.foldl (fun cs (x:Value×Nat)=>cs.setIfInBounds (off+x.2) x.1) (aG ρ cells).toArray):=by
    rw[← Array.foldl_toList,Array.toList_zipIdx]
   rw[e1,ab0,hcl]
   simp[bA,hlen,List.map_append,List.map_take,List.map_drop]
  ·cases h
theorem kX {n:Nat}{place:Nat→Option (Nat×Nat)}:∀(parts:List (Nat×AV)) (cells:List AV) {out:List AV},jM place cells parts=some out→oks n cells→(∀x∈parts,x.2.ok n)→oks n out
 |[],cells,out,h,hc,_=>by
  simp only[jM,Option.some.injEq] at h
  subst h
  exact hc
 |(i,v)::rest,cells,out,h,hc,hp=>by
  simp only[jM] at h
  split at h
  ·cases h
  split at h
  ·exact kX rest _ h (bg (bg (gY hc _) (tN (hp _ zn))) (jD hc _)) fun x hx=>hp x (zm _ hx)
  ·cases h
theorem aT {a b:Nat}(h:Nat.blt a b=true):a < b:=by simpa [Nat.blt_eq] using h
abbrev ag:=Nat→List AV→AW→Option (AV×AW)
def Be (T:bG)(ty sz:Nat)(l:List AV)(off:Nat):Option AV:=
 match T.get ty with
 |some i=>if i.row then (if Nat.beq i.size sz && Nat.ble (off+sz) l.length then some (.agg ((l.drop off).take sz)) else none) else l[off]?
 |none=>none
def fQ:AV→Option Nat
 | .int _ (.ofNat j)=>some j
 |_=>none
def o6 (T:bG)(t:TT):Op→Option AV
 | .move x=>some (ev t x)
 | .assign x=>some (ev t x)
 | .pick c a b=>match ev t c with
   | .bool true=>some (ev t a)
   | .bool false=>some (ev t b)
   |_=>none
 | .fieldAddr s x f=>match T.get s,ev t x with
   |some i,.ptr b o=>match i.kd with
    | .struct fs=>(fs[f]?).map fun y=>.ptr b (o+y.1)
    |_=>none
   |some i,.iV b o=>match i.kd with
    | .struct fs=>(fs[f]?).map fun y=>.iV b (o+y.1)
    |_=>none
   |_,_=>none
 | .indexAddr s x ix=>match T.get s,ev t x,fQ (ev t ix) with
   |some i,.slice b o _ n _,some j=>match i.kd with
    | .slice _ sz _=>if Nat.blt j n then some (.ptr b (o+j * sz)) else none
    |_=>none
   |some i,.ptr b o,some j=>match i.kd with
    | .array n _ sz=>if Nat.blt j n then some (.ptr b (o+j * sz)) else none
    |_=>none
   |some i,.iV b o,some j=>match i.kd with
    | .array n _ sz=>if Nat.blt j n then some (.iV b (o+j * sz)) else none
    |_=>none
   |_,_,_=>none
 | .extract x i=>match ev t x with
   | .tuple l=>l[i]?
   |_=>none
 | .field s x f=>match T.get s,ev t x with
   |some i,.agg l=>match i.kd with
    | .struct fs=>match fs[f]? with
      |some y=>Be T y.2.1 y.2.2 l y.1
      |none=>none
    |_=>none
   |_,_=>none
 | .makeFunc fn first cap=>some (.fn fn (first.toList.map (ev t)) (cap.toList.map (ev t)))
 | .nilCheck x=>match ev t x with
   | .ptr b o=>some (.ptr b o)
   | .iV b o=>some (.iV b o)
   |_=>none
 |_=>none
section
variable {P:Program} {T:bG}
theorem Fy (hT:aW P T){ty sz:Nat}{l:List AV}{off:Nat}{v:AV}(h:Be T ty sz l off=some v)(ρ:Env)(w:World):(part ty (aG ρ l).toArray off).run P w= .ok (cv ρ v) w:=by
 unfold Be at h
 split at h
 case h_2=>cases h
 case h_1 i hi=>
 have hti:=hT ty i hi
 obtain⟨d,hu,hd,_⟩:=hti.under
 split at h
 ·rename_i hrow
  split at h
  ·rename_i hc
   simp only[Bool.and_eq_true] at hc
   have h1:=(beq_iff _ _).1 hc.1
   have h2:=Nat.le_of_ble_eq_true hc.2
   obtain rfl:=zx h
   have hagg:(isAgg ty).run P w= .ok true w:=by
    unfold isAgg
    rw[Sem.run_bind,run_underlying hu w]
    cases d <;> simp_all [TypeDesc.isRow]
   simp only[part,Sem.run_bind,hagg,Result.andThen_ok,if_true,hti.sizeOf,Sem.run_pure]
   congr 1
   rw[cv,h1]
   congr 1
   apply Array.ext'
   simp[bA,List.map_take,List.map_drop,List.extract_eq_take_drop]
  ·cases h
 ·rename_i hrow
  have hagg:(isAgg ty).run P w= .ok false w:=by
   have hd':d.isRow=false:=by rw[hd];simpa using hrow
   unfold isAgg
   rw[Sem.run_bind,run_underlying hu w]
   cases d <;> simp_all [TypeDesc.isRow]
  simp[part,hagg,j4,h]
theorem FO {ty sz:Nat}{l:List AV}{off n:Nat}{v:AV}(h:Be T ty sz l off=some v)(hl:oks n l):v.ok n:=by
 unfold Be at h
 split at h
 case h_2=>cases h
 case h_1 i hi=>
 split at h
 ·split at h
  ·obtain rfl:=zx h
   exact gY (jD hl _) _
  ·cases h
 ·exact vG hl h
theorem bP {v:AV}{j:Nat}(h:fQ v=some j):∃k,v= .int k (j:Int):=by
 unfold fQ at h
 split at h
 ·obtain rfl:=zx h
  exact⟨_,rfl⟩
 ·cases h
theorem kJ (hT:aW P T){ρ:Env}{n N:Nat}{t:TT}{a:Act}(ht:aR ρ n N t a){o:Oper}{v:AV}(h:o6 T t o.op=some v)(w:World):
 (execOp a.eval o).run P w= .ok (.value (cv ρ v)) w∧v.ok n:=by
 obtain⟨dst,op,type,pos,after,guard⟩:=o
 dsimp only at h
 unfold o6 at h
 split at h
 ·rename_i x
  obtain rfl:=zx h
  simp only[execOp,Sem.run_pure,ht.eval]
  exact⟨trivial,ht.fu x⟩
 ·rename_i x
  obtain rfl:=zx h
  simp only[execOp,Sem.run_pure,ht.eval]
  exact⟨trivial,ht.fu x⟩
 ·rename_i c x y
  split at h
  ·rename_i hc
   obtain rfl:=zx h
   simp only[execOp,ht.eval,hc]
   exact⟨by simp[cv,asBool],ht.fu x⟩
  ·rename_i hc
   obtain rfl:=zx h
   simp only[execOp,ht.eval,hc]
   exact⟨by simp[cv,asBool],ht.fu y⟩
  ·cases h
 ·rename_i s x f
  split at h
  ·rename_i i b o hi hx
   split at h
   ·rename_i fs hk
    obtain⟨y,hy,rfl⟩:=Option.map_eq_some_iff.1 h
    have hx':=ht.fu x
    rw[hx] at hx'
    simp only[execOp,ht.eval,hx]
    have:=mY (hT s i hi) hk hy (ρ.blk b) o w
    rw[cv]
    simp only[Sem.run_bind,this,Result.andThen_ok,Sem.run_pure,cv]
    exact⟨trivial,hx'⟩
   ·cases h
  ·rename_i i b o hi hx
   split at h
   ·rename_i fs hk
    obtain⟨y,hy,rfl⟩:=Option.map_eq_some_iff.1 h
    simp only[execOp,ht.eval,hx]
    have:=mY (hT s i hi) hk hy b o w
    rw[cv]
    simp only[Sem.run_bind,this,Result.andThen_ok,Sem.run_pure,cv]
    exact⟨trivial,trivial⟩
   ·cases h
  ·cases h
 ·rename_i s x ix
  split at h
  ·rename_i i b o k m c j hi hx hj
   obtain⟨kk,hj'⟩:=bP hj
   split at h
   ·rename_i e sz rT hk
    split at h
    ·rename_i hlt
     obtain rfl:=zx h
     have hx':=ht.fu x
     rw[hx] at hx'
     have key:=fun cc=>wL (hT s i hi) hk (c:=cc) (aT hlt) kk (ρ.blk b) o w
     refine⟨?_,hx'⟩
     cases c <;> simp only[execOp,ht.eval,hx,hj',cv,Sem.run_bind,key,Result.andThen_ok,Sem.run_pure]
    ·cases h
   ·cases h
  ·rename_i i b o j hi hx hj
   obtain⟨kk,hj'⟩:=bP hj
   split at h
   ·rename_i m e sz hk
    split at h
    ·rename_i hlt
     obtain rfl:=zx h
     have hx':=ht.fu x
     rw[hx] at hx'
     simp only[execOp,ht.eval,hx,hj',cv]
     have:=o5 (hT s i hi) hk (aT hlt) kk (ρ.blk b) o w
     simp only[Sem.run_bind,this,Result.andThen_ok,Sem.run_pure]
     exact⟨trivial,hx'⟩
    ·cases h
   ·cases h
  ·rename_i i b o j hi hx hj
   obtain⟨kk,hj'⟩:=bP hj
   split at h
   ·rename_i m e sz hk
    split at h
    ·rename_i hlt
     obtain rfl:=zx h
     simp only[execOp,ht.eval,hx,hj',cv]
     have:=o5 (hT s i hi) hk (aT hlt) kk b o w
     simp only[Sem.run_bind,this,Result.andThen_ok,Sem.run_pure]
     exact⟨trivial,trivial⟩
    ·cases h
   ·cases h
  ·cases h
 ·rename_i x i
  split at h
  ·rename_i l hx
   have hx':=ht.fu x
   rw[hx] at hx'
   simp only[execOp,ht.eval,hx,cv]
   refine⟨?_,vG hx' h⟩
   simp[Instr.extract,j4,h]
  ·cases h
 ·rename_i s x f
  split at h
  ·rename_i i l hi hx
   have hx':=ht.fu x
   rw[hx] at hx'
   split at h
   ·rename_i fs hk
    split at h
    ·rename_i y hy
     obtain⟨fields,h1,h2,h3⟩:=(hT s i hi).struct hk
     have e2:(fields.toList.map (fun f=>(f.offset,f.type)))[f]? =(fs.map (fun x=>(x.1,x.2.1)))[f]?:=by rw[h2]
     rw[List.getElem?_map,List.getElem?_map,hy,Option.map_some] at e2
     cases hq:fields.toList[f]? with
     |none=>rw[hq] at e2;cases e2
     |some fd=>
      rw[hq] at e2
      have e3:fields[f]? =some fd:=by rw[← Array.getElem?_toList];exact hq
      simp only[Option.map_some,Option.some.injEq,Prod.mk.injEq] at e2
      have hp:=Fy hT h ρ w
      rw[← e2.1,← e2.2] at hp
      simp only[execOp,ht.eval,hx,cv]
      refine⟨?_,FO h hx'⟩
      simp[Instr.field,run_underlying h1,e3,asAgg,hp]
    ·cases h
   ·cases h
  ·cases h
 ·rename_i fn first cap
  obtain rfl:=zx h
  simp only[execOp,Instr.makeFunc,Sem.run_bind,Sem.run_pure,Result.andThen_ok,cv]
  refine⟨?_,(bO _ _).2 fun v hv=>?_,(bO _ _).2 fun v hv=>?_⟩
  ·congr 3
   ·apply Array.ext'
    simp[bA,ht.eval]
   ·apply Array.ext'
    simp[bA,ht.eval]
  ·obtain⟨x,_,rfl⟩:=List.mem_map.1 hv
   exact ht.fu x
  ·obtain⟨x,_,rfl⟩:=List.mem_map.1 hv
   exact ht.fu x
 ·rename_i x
  split at h
  ·rename_i b o hx
   obtain rfl:=zx h
   have hx':=ht.fu x
   rw[hx] at hx'
   simp only[execOp,ht.eval,hx,cv]
   exact⟨rfl,hx'⟩
  ·rename_i b o hx
   obtain rfl:=zx h
   simp only[execOp,ht.eval,hx,cv]
   exact⟨rfl,trivial⟩
  ·cases h
 ·cases h
end
def Env.ues (ρ:Env)(n g:Nat)(x:Addr×Nat):Env:={ blk:=fun b=>if b=n then g else ρ.blk b,cap:=ρ.cap,es:=fun b=>if b=n then x else ρ.es b}
theorem Env.afw (ρ:Env)(n g:Nat)(x:Addr×Nat):Ext n ρ (ρ.ues n g x):=⟨fun b hb=>by simp[Env.ues,Nat.ne_of_lt hb],fun _ _=>rfl,fun b hb=>by simp[Env.ues,Nat.ne_of_lt hb]⟩
theorem aO.zh {w0:World}{ρ:Env}{W:AW}{w:World}(h:aO w0 ρ W w)(x:Addr×Nat):Post w0 ρ W w (ρ.ues W.nx w.heap.size x) ⟨W.nx+1,W.bl,W.az,W.gl⟩ w:=by
 have he:=Env.afw ρ W.nx w.heap.size x
 refine⟨he,Nat.le_succ _,fun _ h=>h,Gr.refl _ _,fun b q1 q2 q3=>?_,⟨h.below,fun b k hb=>?_,fun b b' k k' h1 h2 e=>?_,fun b k hb=>?_,h.kN,h.gl⟩,fun _ _ h=>h,fun _ _ h=>.inl h,rfl⟩
 ·have:b=W.nx:=by have:b < W.nx+1:=q2;omega
  subst this
  simp[Env.ues] at q3
 ·obtain⟨q1,q2,q3,q4⟩:=h.ok b k hb
  rw[he.blk b q1]
  exact⟨Nat.lt_succ_of_lt q1,aF.ok.mono (Nat.le_succ _) q2,q3,q4⟩
 ·rw[he.blk b (h.ok b k h1).1,he.blk b' (h.ok b' k' h2).1] at e
  exact h.inj b b' k k' h1 h2 e
 ·obtain⟨q1,q2,_⟩:=h.ok b k hb
  exact (h.rep b k hb).ext he q1 q2
def pG (T:bG)(W:AW)(s:Nat)(x:AV)(lo hi:Option AV):Option (AV×AW):=
 match T.get s,x with
 |some i,.slice b o k n c=>match i.kd,au b W.bl with
  | .slice _ sz _,some (.cells vs _ op)=>
    match (match lo with | none=>some 0 | some v=>fQ v),(match hi with | none=>some n | some v=>fQ v) with
    |some l,some h=>
     if Nat.ble l h then
      match c,op with
      |some c,_=>if Nat.ble h c then (if Nat.beq c l then some (.slice b o k (h - l) (some (c - l)),W) else some (.slice b (o+l * sz) (k+l) (h - l) (some (c - l)),W)) else none
      |none,some Ou=>if Nat.beq sz Ou && Nat.ble ((k+h) * sz) vs.length then
        (if Nat.blt l h || Nat.beq l 0 then some (.slice b (o+l * sz) (k+l) (h - l) none,W) else some (.zh W.nx,⟨W.nx+1,W.bl,W.az,W.gl⟩)) else none
      |none,none=>none
     else none
    |_,_=>none
  |_,_=>none
 |some i,.ptr b o=>match i.kd with
  | .array n _ sz=>match (match lo with | none=>some 0 | some v=>fQ v),(match hi with | none=>some n | some v=>fQ v) with
    |some l,some h=>if Nat.ble l h && Nat.ble h n && Nat.blt l n then some (.slice b (o+l * sz) 0 (h - l) (some (n - l)),W) else none
    |_,_=>none
  |_=>none
 |_,_=>none
theorem dL {P:Program}{w:World}{k:IntKind}{j y:Nat}{code:BoundsCode}(h:j≤y):(Instr.sliceBound (.int k (j:Int)) y code).run P w= .ok j w:=by
 have c1:(0:Int)≤(j:Int)∧(j:Int)≤(y:Int):=⟨by omega,by omega⟩
 simp only[Instr.sliceBound,asIntOf,Sem.run_bind,Sem.run_pure,Result.andThen_ok,if_pos c1,Int.toNat_natCast]
theorem Av {P:Program}{w:World}{s e sz n cap l h:Nat}{A:Option Addr}{lo hi:Option Value}(hu:P.underlying s=some (.slice e))(hs:jV P e sz=true)
 (hlo:(lo=none∧l=0)∨∃k,lo=some (.int k (l:Int))) (hhi:(hi=none∧h=n)∨∃k,hi=some (.int k (h:Int))) (h1:l≤h) (h2:h≤cap):
 (Instr.sliceAt s (.slice A n cap) lo hi none).run P w= .ok (.slice (if cap=l then A else A.map (·.add (l * sz))) (h - l) (cap - l)) w:=by
 have hs':=fG hs w
 rcases hlo with⟨rfl,rfl⟩ | ⟨k,rfl⟩ <;> rcases hhi with⟨rfl,rfl⟩ | ⟨k',rfl⟩
 ·simp[Instr.sliceAt,Instr.slice,Instr.sliceBounds,run_underlying hu,hs']
 ·simp[Instr.sliceAt,Instr.slice,Instr.sliceBounds,run_underlying hu,hs',dL h2]
 ·simp[Instr.sliceAt,Instr.slice,Instr.sliceBounds,run_underlying hu,hs',dL h1]
 ·simp[Instr.sliceAt,Instr.slice,Instr.sliceBounds,run_underlying hu,hs',dL h1,dL h2]
theorem zC {P:Program}{w:World}{s e sz n l h g o:Nat}{lo hi:Option Value}(hu:P.underlying s=some (.array n e))(hs:jV P e sz=true)
 (hlo:(lo=none∧l=0)∨∃k,lo=some (.int k (l:Int))) (hhi:(hi=none∧h=n)∨∃k,hi=some (.int k (h:Int))) (h1:l≤h) (h2:h≤n) (h3:l < n):
 (Instr.sliceAt s (.pointer (some ⟨g,o,none⟩)) lo hi none).run P w= .ok (.slice (some ⟨g,o+l * sz,none⟩) (h - l) (n - l)) w:=by
 have hs':=fG hs w
 have hne:¬n=l:=by omega
 have hadd:(⟨g,o,none⟩:Addr).add (l * sz)=⟨g,o+l * sz,none⟩:=addr_add _ _ _
 have hb:(Instr.sliceBounds false n n lo hi none).run P w= .ok (l,h,n) w:=by
  rcases hlo with⟨rfl,rfl⟩ | ⟨k,rfl⟩ <;> rcases hhi with⟨rfl,rfl⟩ | ⟨k',rfl⟩
  ·simp[Instr.sliceBounds]
  ·simp[Instr.sliceBounds,dL h2]
  ·simp[Instr.sliceBounds,dL h1]
  ·simp[Instr.sliceBounds,dL h1,dL h2]
 simp only[Instr.sliceAt,run_underlying hu,Sem.run_bind,Result.andThen_ok,Instr.sureAddr,Sem.run_pure,hb,hs',hadd,if_neg hne]
theorem qE {_t:TT}{ρ:Env}{n:Nat}{lo:Option AV}{l:Nat}(h:(match lo with | none=>some n | some v=>fQ v)=some l):
 (lo.map (cv ρ)=none∧l=n)∨∃k,lo.map (cv ρ)=some (.int k (l:Int)):=by
 cases lo with
 |none=>exact .inl ⟨rfl,(zx h).symm⟩
 |some v=>
  obtain⟨k,rfl⟩:=bP h
  exact .inr ⟨k,rfl⟩
theorem Ll {P:Program}{T:bG}(hT:aW P T){w0:World}{ρ:Env}{W W':AW}{w:World}(hW:aO w0 ρ W w){s:Nat}{x v:AV}{lo hi:Option AV}(h:pG T W s x lo hi=some (v,W'))(hx:x.ok W.nx):
 ∃ρ',(∀w2,(Instr.sliceAt s (cv ρ x) (lo.map (cv ρ)) (hi.map (cv ρ)) none).run P w2= .ok (cv ρ' v) w2)∧Post w0 ρ W w ρ' W' w∧v.ok W'.nx:=by
 unfold pG at h
 split at h
 case h_3=>cases h
 case h_2 i b o hi'=>
  split at h
  case h_2=>cases h
  case h_1 n e sz hk=>
  obtain⟨hu,hs⟩:=(hT s i hi').array hk
  split at h
  case h_2=>cases h
  case h_1 l hh hl0 hh0=>
  have L:=qE (_t:=.nil) (ρ:=ρ) hl0
  have H:=qE (_t:=.nil) (ρ:=ρ) hh0
  split at h
  case isFalse=>cases h
  case isTrue hc=>
  simp only[Bool.and_eq_true] at hc
  obtain⟨rfl,rfl⟩:=zw (zx h)
  refine⟨ρ,fun w2=>?_,Post.refl hW,hx⟩
  simp only[cv]
  exact zC hu hs L H (Nat.le_of_ble_eq_true hc.1.1) (Nat.le_of_ble_eq_true hc.1.2) (aT hc.2)
 case h_1 i b o k n c hi'=>
 split at h
 case h_2=>cases h
 case h_1 e sz rT vs e' op hk hb=>
 obtain⟨hu,hs,_,hpos⟩:=(hT s i hi').slice hk
 split at h
 case h_2=>cases h
 case h_1 l hh hl0 hh0=>
 have L:=qE (_t:=.nil) (ρ:=ρ) hl0
 have H:=qE (_t:=.nil) (ρ:=ρ) hh0
 split at h
 case isFalse=>cases h
 case isTrue hle=>
 have hle:=Nat.le_of_ble_eq_true hle
 split at h
 ·rename_i c
  split at h
  case isFalse=>cases h
  case isTrue hc=>
  have hc:=Nat.le_of_ble_eq_true hc
  have hrun:=fun w2=>Av (P:=P) (w:=w2) (n:=n) (A:=some ⟨ρ.blk b,o,none⟩) hu hs L H hle hc
  split at h
  ·rename_i hcl
   have hcl:=(beq_iff _ _).1 hcl
   obtain⟨rfl,rfl⟩:=zw (zx h)
   refine⟨ρ,fun w2=>?_,Post.refl hW,hx⟩
   simp only[cv]
   rw[hrun,if_pos hcl]
  ·rename_i hcl
   have hcl:¬c=l:=fun e=>hcl ((beq_iff _ _).2 e)
   obtain⟨rfl,rfl⟩:=zw (zx h)
   refine⟨ρ,fun w2=>?_,Post.refl hW,hx⟩
   simp only[cv]
   rw[hrun,if_neg hcl,Option.map_some,addr_add]
 ·rename_i Ou
  split at h
  case isFalse=>cases h
  case isTrue hc=>
  simp only[Bool.and_eq_true] at hc
  have e1:=(beq_iff _ _).1 hc.1
  have e2:=Nat.le_of_ble_eq_true hc.2
  subst e1
  obtain⟨m,cur,q1,q2,q3,q4,q5,q6⟩:=hW.rep b _ hb
  have hm:k+hh≤m:=by
   rw[q5] at e2
   exact Nat.le_of_mul_le_mul_right e2 hpos
  have hrun:=fun w2=>Av (P:=P) (w:=w2) (n:=n) (cap:=ρ.cap b - k) (A:=some ⟨ρ.blk b,o,none⟩) hu hs L H hle (by omega)
  split at h
  ·rename_i hlt
   simp only[Bool.or_eq_true] at hlt
   obtain⟨rfl,rfl⟩:=zw (zx h)
   refine⟨ρ,fun w2=>?_,Post.refl hW,hx⟩
   simp only[cv]
   rw[hrun,Nat.sub_sub]
   rcases hlt with hlt | hlt
   ·have hlt:=aT hlt
    rw[if_neg (by omega),Option.map_some,addr_add]
   ·obtain rfl:=(beq_iff _ _).1 hlt
    split
    ·simp
    ·rw[Option.map_some,addr_add]
  ·rename_i hlt
   have hlt:hh=l:=by
    rcases Nat.lt_or_ge l hh with h1 | h1
    ·have h2:Nat.blt l hh=true:=by simpa [Nat.blt_eq] using h1
     rw[h2] at hlt
     exact absurd rfl hlt
    ·omega
   obtain⟨rfl,rfl⟩:=zw (zx h)
   refine⟨_,fun w2=>?_,hW.zh (if ρ.cap b - k=l then ⟨ρ.blk b,o,none⟩ else ⟨ρ.blk b,o+l * sz,none⟩,ρ.cap b - k - l),Nat.lt_succ_self _⟩
   simp only[cv]
   rw[hrun,hlt,Nat.sub_self]
   simp only[Env.ues,if_true]
   split
   ·rfl
   ·rw[Option.map_some,addr_add]
 ·cases h
def uY (T:bG)(s:Nat):Option Kd:=(T.get s).map (·.kd)
theorem eH {T:bG}{s:Nat}{k:Kd}(h:uY T s=some k):∃i,T.get s=some i∧i.kd=k:=by
 obtain⟨i,h1,h2⟩:=Option.map_eq_some_iff.1 h
 exact⟨i,h1,h2⟩
def UL (T:bG)(s:Nat):AV→AV→Option Bool
 | .ptr _ _,.bY=>match uY T s with | some (.ptr _)=>some false | _=>none
 | .bY,.ptr _ _=>match uY T s with | some (.ptr _)=>some false | _=>none
 | .slice _ _ _ _ _,.aX=>match uY T s with | some (.slice _ _ _)=>some false | _=>none
 | .zh _,.aX=>match uY T s with | some (.slice _ _ _)=>some false | _=>none
 |_,_=>none
section
variable {P:Program} {w:World} {s e:Nat}
theorem acA (d:Nat)(hu:P.underlying s=some (.pointer e))(a:Addr):(Op.equalIn (d+1) s (.pointer (some a)) (.pointer none)).run P w= .ok false w:=by simp[Op.equalIn,run_underlying hu]
theorem Vy (d:Nat)(hu:P.underlying s=some (.pointer e))(a:Addr):(Op.equalIn (d+1) s (.pointer none) (.pointer (some a))).run P w= .ok false w:=by simp[Op.equalIn,run_underlying hu]
theorem R8 (d:Nat)(hu:P.underlying s=some (.slice e))(a:Addr)(n c:Nat):(Op.equalIn (d+1) s (.slice (some a) n c) (.slice none 0 0)).run P w= .ok false w:=by simp[Op.equalIn,run_underlying hu]
end
theorem aa7 {P:Program}{T:bG}(hT:aW P T){ρ:Env}{w:World}{s:Nat}{x y:AV}{r:Bool}(h:UL T s x y=some r):(Op.equal s (cv ρ x) (cv ρ y)).run P w= .ok r w:=by
 unfold UL at h
 split at h
 ·split at h
  ·rename_i hk
   obtain⟨i,hi,hk⟩:=eH hk
   have hu:=(hT s i hi).ptr hk
   obtain rfl:=zx h
   exact acA 9999 hu _
  ·cases h
 ·split at h
  ·rename_i hk
   obtain⟨i,hi,hk⟩:=eH hk
   have hu:=(hT s i hi).ptr hk
   obtain rfl:=zx h
   exact Vy 9999 hu _
  ·cases h
 ·split at h
  ·rename_i hk
   obtain⟨i,hi,hk⟩:=eH hk
   obtain⟨hu,_⟩:=(hT s i hi).slice hk
   obtain rfl:=zx h
   exact R8 9999 hu _ _ _
  ·cases h
 ·split at h
  ·rename_i hk
   obtain⟨i,hi,hk⟩:=eH hk
   obtain⟨hu,_⟩:=(hT s i hi).slice hk
   obtain rfl:=zx h
   exact R8 9999 hu _ _ _
  ·cases h
 ·cases h
def lI (T:bG)(W:AW)(s:Nat)(x:AV)(lo:Option AV)(hi mx:AV):Option (AV×AW):=
 match T.get s,x with
 |some i,.slice b o k _n c=>match i.kd with
  | .slice _ sz _=>match (match lo with | none=>some 0 | some v=>fQ v),fQ hi,fQ mx with
    |some l,some h,some m=>
     if Nat.ble l h && Nat.ble h m && Nat.blt l m then
      match c with
      |some c=>if Nat.ble m c then some (.slice b (o+l * sz) (k+l) (h - l) (some (m - l)),W) else none
      |none=>match au b W.bl with
       |some (.cells vs _ (some Ou))=>if Nat.beq sz Ou && Nat.ble ((k+m) * sz) vs.length then some (.slice b (o+l * sz) (k+l) (h - l) (some (m - l)),W) else none
       |_=>none
     else none
    |_,_,_=>none
  |_=>none
 |_,_=>none
theorem wI {P:Program}{w:World}{s e sz n cap l h m:Nat}{kh km:IntKind}{A:Option Addr}{lo:Option Value}(hu:P.underlying s=some (.slice e))(hs:jV P e sz=true)
 (hlo:(lo=none∧l=0)∨∃k,lo=some (.int k (l:Int))) (h1:l≤h) (h2:h≤m) (h3:m≤cap):
 (Instr.sliceAt s (.slice A n cap) lo (some (.int kh (h:Int))) (some (.int km (m:Int)))).run P w= .ok (.slice (if m=l then A else A.map (·.add (l * sz))) (h - l) (m - l)) w:=by
 have hs':=fG hs w
 rcases hlo with⟨rfl,rfl⟩ | ⟨k,rfl⟩
 ·simp[Instr.sliceAt,Instr.slice,Instr.sliceBounds,run_underlying hu,hs',dL h2,dL h3]
 ·simp[Instr.sliceAt,Instr.slice,Instr.sliceBounds,run_underlying hu,hs',dL h1,dL h2,dL h3]
theorem Fp {P:Program}{T:bG}(hT:aW P T){w0:World}{ρ:Env}{W W':AW}{w:World}(hW:aO w0 ρ W w){s:Nat}{x hi mx v:AV}{lo:Option AV}(h:lI T W s x lo hi mx=some (v,W'))(hx:x.ok W.nx):
 W'=W∧(∀w2,(Instr.sliceAt s (cv ρ x) (lo.map (cv ρ)) (some (cv ρ hi)) (some (cv ρ mx))).run P w2= .ok (cv ρ v) w2)∧v.ok W.nx:=by
 unfold lI at h
 split at h
 case h_2=>cases h
 case h_1 i b o k n c hi'=>
 split at h
 case h_2=>cases h
 case h_1 e sz rT hk=>
 obtain⟨hu,hs,_,hpos⟩:=(hT s i hi').slice hk
 split at h
 case h_2=>cases h
 case h_1 l hh m hl0 hh0 hm0=>
 have L:=qE (_t:=.nil) (ρ:=ρ) hl0
 obtain⟨kh,rfl⟩:=bP hh0
 obtain⟨km,rfl⟩:=bP hm0
 split at h
 case isFalse=>cases h
 case isTrue hc=>
 simp only[Bool.and_eq_true] at hc
 have h1:=Nat.le_of_ble_eq_true hc.1.1
 have h2:=Nat.le_of_ble_eq_true hc.1.2
 have h3:=aT hc.2
 split at h
 ·rename_i c
  split at h
  case isFalse=>cases h
  case isTrue hcc=>
  have hcc:=Nat.le_of_ble_eq_true hcc
  obtain⟨rfl,rfl⟩:=zw (zx h)
  refine⟨rfl,fun w2=>?_,hx⟩
  have hrun:=wI (P:=P) (w:=w2) (n:=n) (kh:=kh) (km:=km) (A:=some ⟨ρ.blk b,o,none⟩) hu hs L h1 h2 hcc
  simp only[cv]
  refine Eq.trans hrun ?_
  rw[if_neg (by omega),Option.map_some,addr_add]
 ·split at h
  ·rename_i vs e' Ou hb
   split at h
   case isFalse=>cases h
   case isTrue hcc=>
   simp only[Bool.and_eq_true] at hcc
   have e1:=(beq_iff _ _).1 hcc.1
   have e2:=Nat.le_of_ble_eq_true hcc.2
   subst e1
   obtain⟨m',cur,q1,q2,q3,q4,q5,q6⟩:=hW.rep b _ hb
   have hm:k+m≤m':=by
    rw[q5] at e2
    exact Nat.le_of_mul_le_mul_right e2 hpos
   obtain⟨rfl,rfl⟩:=zw (zx h)
   refine⟨rfl,fun w2=>?_,hx⟩
   have hrun:=wI (P:=P) (w:=w2) (n:=n) (cap:=ρ.cap b - k) (kh:=kh) (km:=km) (A:=some ⟨ρ.blk b,o,none⟩) hu hs L h1 h2 (by omega)
   simp only[cv]
   refine Eq.trans hrun ?_
   rw[if_neg (by omega),Option.map_some,addr_add]
  ·cases h
def je (im:List (Nat×Nat)):Nat→Nat→List AV
 |_,0=>[]
 |a,m+1=>.int .u8 (.ofNat (bN ((au a im).getD 0)))::je im (a+1) m
def kI (bl:List (Nat×aF))(sz:Nat):AV→Option (Nat×List AV)
 | .aX=>some (0,[])
 | .zh _=>some (0,[])
 | .slice b o _ m _=>match au b bl with
   |some (.cells vs _ _)=>if Nat.ble (o+m * sz) vs.length then some (m,(vs.drop o).take (m * sz)) else none
   |some (.img _ im)=>if Nat.beq sz 1 && Nat.ble 1025 o && Nat.ble (o+m) 66561 then some (m,je im (o - 1025) m) else none
   |_=>none
 |_=>none
theorem uD (im:List (Nat×Nat)):∀(a m:Nat),(je im a m).length=m
 |_,0=>rfl
 |a,m+1=>by rw[je,List.length_cons,uD im (a+1) m]
theorem xE (im:List (Nat×Nat))(n:Nat):∀(a m:Nat),oks n (je im a m)
 |_,0=>trivial
 |a,m+1=>⟨trivial,xE im n (a+1) m⟩
theorem uE (im:List (Nat×Nat))(ρ:Env):∀(a m j:Nat) (u:Value),(aG ρ (je im a m))[j]? =some u→j < m∧u= .int .u8 (imD im (a+j)).toNat
 |_,0,j,u,h=>by simp[je,aG] at h
 |a,m+1,0,u,h=>by
  simp only[je,aG,cv,List.getElem?_cons_zero,Option.some.injEq] at h
  subst h
  refine⟨by omega,?_⟩
  simp[imD,bN]
 |a,m+1,j+1,u,h=>by
  simp only[je,aG,List.getElem?_cons_succ] at h
  obtain⟨h1,h2⟩:=uE im ρ (a+1) m j u h
  refine⟨by omega,?_⟩
  rw[h2,Nat.add_assoc,Nat.add_comm 1 j]
theorem jA {ρ:Env}{n:Nat}{bl:List (Nat×aF)}{w:World}(hr:∀b k,au b bl=some k→k.ok n∧k.rep ρ w b){sz m:Nat}{x:AV}{l:List AV}(h:kI bl sz x=some (m,l)):
 ∃A c,cv ρ x= .slice A m c∧l.length=m * sz∧Rd w (fun _=>True) A (aG ρ l)∧oks n l:=by
 unfold kI at h
 split at h
 ·obtain⟨rfl,rfl⟩:=zw (zx h)
  exact⟨none,0,rfl,by simp,Rd.nil _ _ _,trivial⟩
 ·obtain⟨rfl,rfl⟩:=zw (zx h)
  exact⟨_,_,rfl,by simp,Rd.nil _ _ _,trivial⟩
 ·rename_i b o k m' c
  split at h
  ·rename_i vs e op hb
   split at h
   ·rename_i hle
    have hle:=Nat.le_of_ble_eq_true hle
    obtain⟨rfl,rfl⟩:=zw (zx h)
    obtain⟨ho,hrep⟩:=hr b _ hb
    refine⟨_,_,rfl,by simp;omega,fun _=>⟨_,rfl,trivial,fun j u hu=>?_⟩,gY (jD ho _) _⟩
    rw[j4] at hu
    cases hq:((vs.drop o).take (m' * sz))[j]? with
    |none=>rw[hq] at hu;cases hu
    |some v0=>
     rw[hq] at hu
     obtain rfl:=zx hu
     rw[addr_add]
     refine qy hrep (j:=o+j) ?_
     rw[List.getElem?_take] at hq
     split at hq
     ·rw[List.getElem?_drop] at hq;exact hq
     ·cases hq
   ·cases h
  ·rename_i e im hb
   split at h
   ·rename_i hc
    simp only[Bool.and_eq_true] at hc
    obtain rfl:=(beq_iff _ _).1 hc.1.1
    have h1:=Nat.le_of_ble_eq_true hc.1.2
    have h2:=Nat.le_of_ble_eq_true hc.2
    obtain⟨rfl,rfl⟩:=zw (zx h)
    obtain⟨_,cs,hcs,hI⟩:=hr b _ hb
    refine⟨_,_,rfl,by rw[uD];omega,fun _=>⟨_,rfl,trivial,fun j u hu=>?_⟩,xE _ _ _ _⟩
    obtain⟨g1,g2⟩:=uE im ρ _ _ j u hu
    rw[addr_add,g2]
    have:=hI.bytes (o - 1025+j) (by omega)
    have e2:1025+(o - 1025+j)=o+j:=by omega
    rw[e2] at this
    simp only[World.cell?,hcs]
    simpa using this
   ·cases h
  ·cases h
 ·cases h
def ownB (op c:Option Nat)(n sz:Nat):Bool:=match op,c with
 |none,some c=>Nat.beq c n
 |some Ou,none=>Nat.beq Ou sz
 |_,_=>false
def rF (T:bG)(W:AW)(s:Nat)(x y:AV):Option (AV×AW):=
 match T.get s with
 |some i=>match i.kd with
  | .slice e sz rT=>match T.get e,kI W.bl sz y with
    |some ie,some (m,news)=>
     if news.all qH && Nat.beq ie.size sz && Nat.beq ie.zero.length sz then
      match x with
      | .aX=>if Nat.beq m 0 then some (.aX,W) else if Nat.ble (m * (rT+1)) 1099511627776 then
          some (.slice W.nx 0 0 m none,W.push (.cells news e (some sz))) else none
      | .slice b 0 0 n c=>match au b W.bl with
        |some (.cells vs e' op)=>
         if Nat.beq e' e && Nat.beq vs.length (n * sz) && ownB op c n sz && Nat.ble ((n+m) * (rT+1)) 1099511627776 then
          if Nat.beq m 0 then some (.slice b 0 0 n c,W) else
          some (.slice W.nx 0 0 (n+m) none,⟨W.nx+1,(W.nx,.cells (vs++news) e (some sz))::rO b W.bl,addN b W.az,W.gl⟩)
         else none
        |_=>none
      |_=>none
     else none
    |_,_=>none
  |_=>none
 |none=>none
theorem qc (ρ:Env)(l l':List AV):aG ρ (l++l')=aG ρ l++aG ρ l':=by simp[bA]
theorem rG {l:List AV}(h:l.all qH=true)(ρ:Env):∀u∈aG ρ l,u.oneCell'=true:=fun u hu=>by
 rw[bA] at hu
 obtain⟨x,hx,rfl⟩:=List.mem_map.1 hu
 exact Bf (List.all_eq_true.1 h x hx) ρ
theorem qD {w:World}{base e sz n:Nat}{v:Value}{xs:List Value}(h:w.ownsRow base e sz v n xs)(hn:0 < n):∃g cap cur,v= .slice (some ⟨g,0,none⟩) n cap∧g < w.heap.size∧w.heap[g]? =some (.cells cur e (0,0))∧n≤cap∧cap≤maxLen∧cur.size=cap * sz∧cur.toList.take (n * sz)=xs:=by
 rcases h.2 with⟨_,h0⟩ | ⟨g,cap,cur,h1,_,h3,h4⟩
 ·omega
 ·exact⟨g,cap,cur,h1,(Array.getElem?_eq_some_iff.1 h3).1,h3,h4⟩
theorem Kk {P:Program}{T:bG}(hT:aW P T){w0:World}{ρ:Env}{W W':AW}{w:World}(hW:aO w0 ρ W w){s ty:Nat}{x y v:AV}(h:rF T W s x y=some (v,W'))(hx:x.ok W.nx):
 ∃ρ' w',(Builtin.append_ #[s,s] ty #[cv ρ x,cv ρ y]).run P w= .ok (cv ρ' v) w'∧Post w0 ρ W w ρ' W' w'∧v.ok W'.nx:=by
 unfold rF at h
 split at h
 case h_2=>cases h
 case h_1 i hi=>
 split at h
 case h_2=>cases h
 case h_1 e sz rT hk=>
 split at h
 case h_2=>cases h
 case h_1 ie m news hie hnews=>
 split at h
 case isFalse=>cases h
 case isTrue hc=>
 simp only[Bool.and_eq_true] at hc
 obtain⟨⟨hone,hsz⟩,hzl⟩:=hc
 have hzl:=(beq_iff _ _).1 hzl
 have hsz:=(beq_iff _ _).1 hsz
 obtain⟨hu,hs,hby,hpos⟩:=(hT s i hi).slice hk
 obtain⟨f,z,hf,hfs,hfz,hzc⟩:=(hT e ie hie).info
 have hr:∀b k,au b W.bl=some k→k.ok W.nx∧k.rep ρ w b:=fun b k hb=>⟨(hW.ok b k hb).2.1,hW.rep b k hb⟩
 obtain⟨A,c,hy,hlen,hrd,hno⟩:=jA hr hnews
 have hzs:z.cells.size=sz:=by rw[← Array.length_toList,hzc,hzl]
 have kU:f.bytes=rT:=by rw[hf] at hby;simpa using hby
 have E:El P s e z sz rT:=⟨hu,by rw[hf];simp[hfz,hfs,hsz,kU],hzs,hpos⟩
 split at h
 ·split at h
  ·rename_i hm
   obtain rfl:=(beq_iff _ _).1 hm
   obtain⟨rfl,rfl⟩:=zw (zx h)
   obtain⟨v',w',hrun,_,_,_,hz⟩:=vC E w 0 ty (.slice none 0 0) 0 [] (World.ownsRow_nil _ _ _ _) (fun _=>True) A 0 c (aG ρ news) (by rw[ak,hlen]) hrd (rG hone ρ) (by simp[maxLen]) (by omega) (Nat.zero_le _)
   obtain⟨rfl,rfl⟩:=hz rfl
   exact⟨ρ,w',by rw[hy];exact hrun,Post.refl hW,trivial⟩
  ·rename_i hm
   have hm:¬m=0:=fun e=>hm ((beq_iff _ _).2 e)
   split at h
   case isFalse=>cases h
   case isTrue hb=>
   have hb:=Nat.le_of_ble_eq_true hb
   rw[Nat.mul_succ] at hb
   obtain⟨rfl,rfl⟩:=zw (zx h)
   obtain⟨v',w',hrun,hown,hg,hat,_⟩:=vC E w 0 ty (.slice none 0 0) 0 [] (World.ownsRow_nil _ _ _ _) (fun _=>True) A m c (aG ρ news) (by rw[ak,hlen]) hrd (rG hone ρ) (by simp only[maxLen];omega) (by rw[Nat.zero_add];omega) (Nat.zero_le _)
   obtain⟨g,cap,cur,rfl,q1,q2,q3,q4,q5,q6⟩:=qD hown (by omega)
   have hgw:w.heap.size≤g:=by
    rcases hat with hat | hat
    ·simp[Value.ownBlock] at hat
    ·have:g=w.heap.size:=zx hat
     omega
   have hgr:Gr w w' (fun _=>False):=(Gr.kL hg).mono fun i _ e=>by simp[Value.ownBlock] at e
   refine⟨_,w',?_,hW.new (c:=cap) hgr hgw q1 hno ?_,Nat.lt_succ_self _⟩
   ·rw[hy]
    simp only[cv,Env.aP,Env.bX]
    rw[hrun,Nat.zero_add,Nat.sub_zero]
   ·refine⟨m,cur,?_,?_,?_,?_,hlen,?_⟩
    ·rw[Env.aP];exact q2
    ·rw[Env.bX];omega
    ·rw[Env.bX];exact q4
    ·rw[Env.bX];exact q5
    ·rw[cu (Env.fM ρ W.nx g cap) news hno]
     simpa using q6
 ·rename_i b n c'
  split at h
  case h_2=>cases h
  case h_1 vs e' op hb=>
  split at h
  case isFalse=>cases h
  case isTrue hcc=>
  simp only[Bool.and_eq_true] at hcc
  obtain⟨⟨⟨he,hvl⟩,hop⟩,hbd⟩:=hcc
  obtain rfl:=(beq_iff _ _).1 he
  have hvl:=(beq_iff _ _).1 hvl
  have hbd:=Nat.le_of_ble_eq_true hbd
  rw[Nat.mul_succ] at hbd
  have hrep:=hW.rep b _ hb
  have hown:w.ownsRow 0 e' sz (cv ρ (.slice b 0 0 n c')) n (aG ρ vs):=by
   refine⟨by rw[ak,hvl],.inr ?_⟩
   cases op with
   |none=>
    cases c' with
    |none=>cases hop
    |some c''=>
     have hop:c''=n:=(beq_iff _ _).1 hop
     subst hop
     refine⟨ρ.blk b,c'',_,rfl,Nat.zero_le _,hrep,zu _,by simp only[maxLen];omega,by simp[ak,hvl],List.take_of_length_le (by simp[ak,hvl])⟩
   |some Ou=>
    cases c' with
    |some _=>cases hop
    |none=>
     have hop:Ou=sz:=(beq_iff _ _).1 hop
     subst hop
     obtain⟨n',cur,q1,q2,q3,q4,q5,q6⟩:=hrep
     have hnn:n'=n:=by rw[hvl] at q5;exact (Nat.eq_of_mul_eq_mul_right hpos q5).symm
     subst hnn
     exact⟨ρ.blk b,ρ.cap b,cur,by simp[cv],Nat.zero_le _,q1,q2,q3,q4,q6⟩
  obtain⟨v',w',hrun,hown',hg,hat,hz⟩:=vC E w 0 ty _ n (aG ρ vs) hown (fun _=>True) A m c (aG ρ news) (by rw[ak,hlen]) hrd (rG hone ρ) (by simp only[maxLen];omega) (by omega) (Nat.zero_le _)
  split at h
  ·rename_i hm
   obtain rfl:=(beq_iff _ _).1 hm
   obtain⟨rfl,rfl⟩:=zw (zx h)
   obtain⟨rfl,rfl⟩:=hz rfl
   exact⟨ρ,w',by rw[hy];exact hrun,Post.refl hW,hx⟩
  ·rename_i hm
   have hm:¬m=0:=fun e=>hm ((beq_iff _ _).2 e)
   obtain⟨rfl,rfl⟩:=zw (zx h)
   obtain⟨g,cap,cur,rfl,q1,q2,q3,q4,q5,q6⟩:=qD hown' (by omega)
   have hgb:g=ρ.blk b∨w.heap.size≤g:=by
    rcases hat with hat | hat
    ·have:g=ρ.blk b:=zx hat
     exact .inl this
    ·have:g=w.heap.size:=zx hat
     exact .inr (by omega)
   have hgr:Gr w w' (fun i=>ρ.blk b=i):=(Gr.kL hg).mono fun i _ e=>zx e
   have ve:oks W.nx (vs++news):=bg (hW.ok b _ hb).2.1 hno
   refine⟨_,w',?_,hW.turn (c:=cap) hb hgr hgb q1 ve ?_,Nat.lt_succ_self _⟩
   ·rw[hy]
    simp only[cv,Env.aP,Env.bX] at hrun ⊢
    rw[hrun,Nat.sub_zero]
   ·refine⟨n+m,cur,?_,?_,?_,?_,by rw[List.length_append,hvl,hlen,Nat.add_mul],?_⟩
    ·rw[Env.aP];exact q2
    ·rw[Env.bX];exact q3
    ·rw[Env.bX];exact q4
    ·rw[Env.bX];exact q5
    ·rw[cu (Env.fM ρ W.nx g cap) _ ve,qc]
     exact q6
 ·cases h
def Eh (T:bG)(t:TT)(W:AW):Op→Option (AV×AW)
 | .build s parts=>match T.get s with
   |some i=>match i.kd with
    | .struct fs=>(jM (fun f=>(fs[f]?).map fun y=>(y.1,y.2.2)) (i.zero.map gy) (parts.toList.map fun p=>(p.1,ev t p.2))).map fun l=>(.agg l,W)
    | .array _ _ sz=>(jM (fun j=>some (j * sz,sz)) (i.zero.map gy) (parts.toList.map fun p=>(p.1,ev t p.2))).map fun l=>(.agg l,W)
    |_=>none
   |none=>none
 | .slice s x lo hi none=>pG T W s (ev t x) (lo.map (ev t)) (hi.map (ev t))
 | .slice s x lo (some hi) (some mx)=>lI T W s (ev t x) (lo.map (ev t)) (ev t hi) (ev t mx)
 | .binOp op s x y _=>match op with
   | .eql=>(UL T s (ev t x) (ev t y)).map fun b=>(.bool b,W)
   | .neq=>(UL T s (ev t x) (ev t y)).map fun b=>(.bool (!b),W)
   |_=>none
 | .call c=>match c.callee with
   | .builtin .len=>match c.args.toList.map (ev t),c.argTypes.toList with
     |[.slice _ _ _ n _],[s]=>match T.get s with
      |some i=>match i.kd with | .slice _ _ _=>some (.int .i64 (.ofNat n),W) | _=>none
      |none=>none
     |[.zh _],[s]=>match T.get s with
      |some i=>match i.kd with | .slice _ _ _=>some (.int .i64 (.ofNat 0),W) | _=>none
      |none=>none
     |_,_=>none
   |_=>none
 |_=>none
def qb (T:bG)(t:TT)(W:AW):Op→Option (AV×AW)
 | .load e x=>match qQ T W.bl e (ev t x) with
   |some v=>some (v,W)
   |none=>(RZ T W.gl e (ev t x)).map (·,W)
 | .store e x y=>(Cw T W.bl e (ev t y) (ev t x)).map fun r=>(.tuple [],⟨W.nx,gF r.1 r.2 W.bl,addN r.1 W.az,W.gl⟩)
 | .alloc e=>match T.get e with
   |some i=>some (.ptr W.nx 0,W.push (.cells (i.zero.map gy) e none))
   |none=>none
 | .box e x=>if (dI (ev t x)).all qH then some (.ptr W.nx 0,W.push (.cells (dI (ev t x)) e none)) else none
 | .buildSlice s len parts=>match T.get s with
   |some i=>match i.kd with
    | .slice e sz _=>match T.get e with
      |some ie=>
       if Nat.beq ie.size sz && Nat.ble (len * sz) 65536 then
        (jM (fun j=>some (j * sz,sz)) ((List.range (len * sz)).map fun k=>gy (ie.zero.toArray[k % ie.zero.toArray.size]!)) (parts.toList.map fun p=>(p.1,ev t p.2))).map fun l=>(.slice W.nx 0 0 len (some len),W.push (.cells l e none))
       else none
      |none=>none
    |_=>none
   |none=>none
 | .call c=>match c.callee with
   | .builtin .append=>match c.args.toList.map (ev t),c.argTypes.toList with
     |[x,y],[s,s']=>if Nat.beq s s' then rF T W s x y else none
     |_,_=>none
   |_=>none
 |_=>none
section
variable {P:Program} {T:bG}
theorem abA {α β:Type}{f:α→β}{a:Array α}{x y:β}(h:a.toList.map f=[x,y]):∃p q,a=#[p,q]∧f p=x∧f q=y:=by
 rcases a with⟨l⟩
 match l,h with
 |[p,q],h=>exact⟨p,q,rfl,by simpa using h⟩
theorem Jc {α β:Type}{f:α→β}{a:Array α}{x:β}(h:a.toList.map f=[x]):∃p,a=#[p]∧f p=x:=by
 rcases a with⟨l⟩
 match l,h with
 |[p],h=>exact⟨p,rfl,by simpa using h⟩
theorem NV {α:Type}{a:Array α}{l:List α}(h:a.toList=l):a=l.toArray:=by rw[← h]
theorem nk {ρ:Env}{n N:Nat}{t:TT}{a:Act}(ht:aR ρ n N t a)(parts:Array (Nat×Operand)):∀x∈parts.toList.map (fun p=>(p.1,ev t p.2)),x.2.ok n:=fun x hx=>by
 obtain⟨p,_,rfl⟩:=List.mem_map.1 hx
 exact ht.fu p.2
theorem sF:∀(fields:List Field) (fs:List (Nat×Nat×Nat)),fields.map (fun f=>(f.offset,f.type))=fs.map (fun x=>(x.1,x.2.1))→(∀x∈fs,jV P x.2.1 x.2.2=true)→
 fields.mapM (fun f=>(P.info? f.type).map fun i=>(f.offset,i.size))=some (fs.map fun y=>(y.1,y.2.2))
 |[],[],_,_=>rfl
 |[],_::_,h,_=>by simp at h
 |_::_,[],h,_=>by simp at h
 |f::fields,x::fs,h,hs=>by
  simp only[List.map_cons,List.cons.injEq,Prod.mk.injEq] at h
  obtain⟨⟨h1,h2⟩,h3⟩:=h
  have ih:=sF fields fs h3 fun y hy=>hs y (zm _ hy)
  have hx:=hs x zn
  unfold jV at hx
  rw[← h2] at hx
  cases hq:P.info? f.type with
  |none=>simp[hq] at hx
  |some i=>
   simp[hq] at hx
   simp[List.mapM_cons,hq,ih,h1,hx]
theorem Rz (hT:aW P T){ρ:Env}{n N:Nat}{t:TT}{a:Act}{w:World}{op:BinOp}{s ty:Nat}{x y:Operand}{dst:Option Tmp}{type:TypeId}{pos:String}{after:Array Edge}{guard:Option (Nat×Bool)}{b r:Bool}(ht:aR ρ n N t a)(h:UL T s (ev t x) (ev t y)=some b)(ho:(op= .eql∧r=b)∨(op= .neq∧r= !b)):
 (execOp a.eval (⟨dst,.binOp op s x y ty,type,pos,after,guard⟩:Oper)).run P w= .ok (.value (cv ρ (.bool r))) w:=by
 have hr:=aa7 hT (ρ:=ρ) (w:=w) h
 have hx:=ht.eval x
 have hy:=ht.eval y
 unfold UL at h
 split at h
 ·rename_i e1 e2
  rw[e1] at hx hr;rw[e2] at hy hr
  rcases ho with⟨rfl,rfl⟩ | ⟨rfl,rfl⟩ <;> simp only[execOp,hx,hy,cv,binOp,eqGuard] <;> simp only[cv] at hr <;> simp[hr]
 ·rename_i e1 e2
  rw[e1] at hx hr;rw[e2] at hy hr
  rcases ho with⟨rfl,rfl⟩ | ⟨rfl,rfl⟩ <;> simp only[execOp,hx,hy,cv,binOp,eqGuard] <;> simp only[cv] at hr <;> simp[hr]
 ·rename_i b' o' k' m' c' e1 e2
  rw[e1] at hx hr;rw[e2] at hy hr
  cases c' <;> rcases ho with⟨rfl,rfl⟩ | ⟨rfl,rfl⟩ <;> simp only[execOp,hx,hy,cv,binOp,eqGuard] <;> simp only[cv] at hr <;> simp[hr]
 ·rename_i e1 e2
  rw[e1] at hx hr;rw[e2] at hy hr
  rcases ho with⟨rfl,rfl⟩ | ⟨rfl,rfl⟩ <;> simp only[execOp,hx,hy,cv,binOp,eqGuard] <;> simp only[cv] at hr <;> simp[hr]
 ·cases h
theorem lJ (o:Obj)(w:World):(Sem.new o Sem.pure).run P w= .ok w.heap.size (w.alloc o):=rfl
theorem yN (hT:aW P T){w0:World}{ρ:Env}{N:Nat}{t:TT}{a:Act}{W W':AW}{w:World}(ht:aR ρ W.nx N t a)(hW:aO w0 ρ W w){o:Oper}{v:AV}(h:Eh T t W o.op=some (v,W')):
 ∃ρ',(∀w2,(execOp a.eval o).run P w2= .ok (.value (cv ρ' v)) w2)∧Post w0 ρ W w ρ' W' w∧v.ok W'.nx:=by
 obtain⟨dst,op,type,pos,after,guard⟩:=o
 dsimp only at h
 unfold Eh at h
 split at h
 ·rename_i s parts
  split at h
  case h_2=>cases h
  case h_1 i hi=>
  obtain⟨f,z,hf,hfs,hfz,hzc⟩:=(hT s i hi).info
  have hz:z.cells=(aG ρ (i.zero.map gy)).toArray:=by rw[jO,← hzc]
  have hp:(parts.map fun (x:Nat×Operand)=>(x.1,a.eval x.2)).toList=(parts.toList.map fun p=>(p.1,ev t p.2)).map fun x=>(x.1,cv ρ x.2):=by simp[ht.eval]
  split at h
  ·rename_i fs hk
   obtain⟨l,hl,h2⟩:=Option.map_eq_some_iff.1 h
   obtain⟨rfl,rfl⟩:=zw h2
   obtain⟨fields,h1,h2,h3⟩:=(hT s i hi).struct hk
   have qV:=kW (ρ:=ρ) _ _ hl
   refine⟨ρ,fun w2=>?_,Post.refl hW,kX _ _ hl (gI _ _) (nk ht parts)⟩
   have hpl:=sF fields.toList fs h2 fun x hx=>(h3 x hx).1
   have hb:P.built s (parts.map fun (x:Nat×Operand)=>(x.1,a.eval x.2)).toList=some (aG ρ l).toArray:=by
    unfold Program.built
    simp only[hf,h1,hfz,hpl,hp,hz]
    rw[← qV]
    congr 1
    funext f
    simp
   have:=run_build w2 s _ _ hb
   simp only[execOp,Sem.run_bind,this,Result.andThen_ok,Sem.run_pure,cv]
  ·rename_i n e sz hk
   obtain⟨l,hl,h2⟩:=Option.map_eq_some_iff.1 h
   obtain⟨rfl,rfl⟩:=zw h2
   obtain⟨h1,h2⟩:=(hT s i hi).array hk
   have qV:=kW (ρ:=ρ) _ _ hl
   refine⟨ρ,fun w2=>?_,Post.refl hW,kX _ _ hl (gI _ _) (nk ht parts)⟩
   simp only[execOp,Instr.build,zeroValue,typeInfo,Sem.run_bind,run_program,Result.andThen_ok,hf,hfz,Sem.run_pure,run_underlying h1,fG h2,hp,hz,qV,cv]
  ·cases h
 ·rename_i s x lo hi
  obtain⟨ρ',h1,h2,h3⟩:=Ll hT hW h (ht.fu x)
  refine⟨ρ',fun w2=>?_,h2,h3⟩
  have e1:∀q:Option Operand,q.map a.eval=(q.map (ev t)).map (cv ρ):=fun q=>by cases q <;> simp[ht.eval]
  simp only[execOp,ht.eval,e1,Option.map_none,Sem.run_bind,h1,Result.andThen_ok,Sem.run_pure]
 ·rename_i s x lo hi mx
  obtain⟨rfl,h1,h2⟩:=Fp hT hW h (ht.fu x)
  refine⟨ρ,fun w2=>?_,Post.refl hW,h2⟩
  have e1:∀q:Option Operand,q.map a.eval=(q.map (ev t)).map (cv ρ):=fun q=>by cases q <;> simp[ht.eval]
  simp only[execOp,ht.eval,e1,Option.map_some,Sem.run_bind,h1,Result.andThen_ok,Sem.run_pure]
 ·rename_i op s x y ty
  split at h
  ·obtain⟨b,hb,h2⟩:=Option.map_eq_some_iff.1 h
   obtain⟨rfl,rfl⟩:=zw h2
   refine⟨ρ,fun w2=>?_,Post.refl hW,trivial⟩
   exact Rz hT (op:=.eql) (w:=w2) ht hb (.inl ⟨rfl,rfl⟩)
  ·obtain⟨b,hb,h2⟩:=Option.map_eq_some_iff.1 h
   obtain⟨rfl,rfl⟩:=zw h2
   refine⟨ρ,fun w2=>?_,Post.refl hW,trivial⟩
   exact Rz hT (op:=.neq) (w:=w2) ht hb (.inr ⟨rfl,rfl⟩)
  ·cases h
 ·rename_i c
  obtain⟨callee,args,ats⟩:=c
  dsimp only at h
  split at h
  case h_2=>cases h
  case h_1=>
  split at h
  ·rename_i b o k n cp s ha hs
   split at h
   case h_2=>cases h
   case h_1 i hi=>
   split at h
   case h_2=>cases h
   case h_1 e sz rT hk=>
   obtain⟨rfl,rfl⟩:=zw (zx h)
   obtain⟨p,rfl,hp⟩:=Jc ha
   obtain rfl:=NV hs
   obtain⟨hu,_⟩:=(hT s i hi).slice hk
   refine⟨ρ,fun w2=>?_,Post.refl hW,trivial⟩
   have hx:=ht.eval p
   rw[hp] at hx
   cases cp <;> simp[execOp,resolve,invoke,builtin,Builtin.len_,hx,cv,run_underlying hu,goInt]
  ·rename_i j s ha hs
   split at h
   case h_2=>cases h
   case h_1 i hi=>
   split at h
   case h_2=>cases h
   case h_1 e sz rT hk=>
   obtain⟨rfl,rfl⟩:=zw (zx h)
   obtain⟨p,rfl,hp⟩:=Jc ha
   obtain rfl:=NV hs
   obtain⟨hu,_⟩:=(hT s i hi).slice hk
   refine⟨ρ,fun w2=>?_,Post.refl hW,trivial⟩
   have hx:=ht.eval p
   rw[hp] at hx
   simp[execOp,resolve,invoke,builtin,Builtin.len_,hx,cv,run_underlying hu,goInt]
  ·cases h
 ·cases h
theorem ru (hT:aW P T){w0:World}{ρ:Env}{N:Nat}{t:TT}{a:Act}{W W':AW}{w:World}(ht:aR ρ W.nx N t a)(hW:aO w0 ρ W w){o:Oper}{v:AV}(h:qb T t W o.op=some (v,W')):
 ∃ρ' w',((execOp a.eval o).run P w= .ok (.value (cv ρ' v)) w'∨((execOp a.eval o).run P w= .ok .skip w'∧v= .tuple []))∧Post w0 ρ W w ρ' W' w'∧v.ok W'.nx:=by
 have hr:∀b k,au b W.bl=some k→k.ok W.nx∧k.rep ρ w b:=fun b k hb=>⟨(hW.ok b k hb).2.1,hW.rep b k hb⟩
 obtain⟨dst,op,type,pos,after,guard⟩:=o
 dsimp only at h
 unfold qb at h
 split at h
 ·rename_i e x
  split at h
  ·rename_i u hu
   obtain⟨rfl,rfl⟩:=zw (zx h)
   obtain⟨h1,h3⟩:=oF hT (fun b _ _ k=>hr b k) hu
   refine⟨ρ,w,.inl ?_,Post.refl hW,h3⟩
   simp only[execOp,ht.eval,Sem.run_bind,h1,Result.andThen_ok,Sem.run_pure]
  ·obtain⟨u,hu,h2⟩:=Option.map_eq_some_iff.1 h
   obtain⟨rfl,rfl⟩:=zw h2
   obtain⟨h1,h3⟩:=sO (ρ:=ρ) hT (n:=W.nx) hW.Vh hu
   refine⟨ρ,w,.inl ?_,Post.refl hW,h3⟩
   simp only[execOp,ht.eval,Sem.run_bind,h1,Result.andThen_ok,Sem.run_pure]
 ·rename_i e x y
  obtain⟨⟨b,k⟩,hu,h2⟩:=Option.map_eq_some_iff.1 h
  obtain⟨rfl,rfl⟩:=zw h2
  obtain⟨w',h1,h3⟩:=Li hT hW hu (ht.fu y)
  refine⟨ρ,w',.inr ⟨?_,rfl⟩,h3,trivial⟩
  simp only[execOp,ht.eval,Sem.run_bind,h1,Result.andThen_ok,Sem.run_pure]
 ·rename_i e
  split at h
  ·rename_i i hi
   obtain⟨rfl,rfl⟩:=zw (zx h)
   obtain⟨f,z,hf,hfs,hfz,hzc⟩:=(hT e i hi).info
   refine⟨_,_,.inl ?_,hW.row (gI W.nx i.zero) e,Nat.lt_succ_self _⟩
   have hz:z.cells=i.zero.toArray:=by rw[← hzc]
   simp only[cv,Env.aP,jO]
   simp[execOp,Instr.alloc,zeroValue,typeInfo,hf,hfz,newVar,newRow,newObj,hz,lJ]
  ·cases h
 ·rename_i e x
  split at h
  ·rename_i hone
   obtain⟨rfl,rfl⟩:=zw (zx h)
   refine⟨_,_,.inl ?_,hW.row (tN (ht.fu x)) e,Nat.lt_succ_self _⟩
   have hz:(cv ρ (ev t x)).cells=(aG ρ (dI (ev t x))).toArray:=by rw[← lZ hone ρ]
   simp only[cv,Env.aP]
   simp[execOp,ht.eval,Instr.box,newVar,newRow,newObj,hz,lJ]
  ·cases h
 ·rename_i s len parts
  split at h
  case h_2=>cases h
  case h_1 i hi=>
  split at h
  case h_2=>cases h
  case h_1 e sz rT hk=>
  split at h
  case h_2=>cases h
  case h_1 ie hie=>
  split at h
  case isFalse=>cases h
  case isTrue hc=>
  simp only[Bool.and_eq_true] at hc
  have hsz:=(beq_iff _ _).1 hc.1
  have hle:=Nat.le_of_ble_eq_true hc.2
  obtain⟨l,hl,h2⟩:=Option.map_eq_some_iff.1 h
  obtain⟨rfl,rfl⟩:=zw h2
  obtain⟨hu,hs,_,hpos⟩:=(hT s i hi).slice hk
  obtain⟨f,z,hf,hfs,hfz,hzc⟩:=(hT e ie hie).info
  have hz:z.cells=ie.zero.toArray:=by rw[← hzc]
  have qV:=kW (ρ:=ρ) _ _ hl
  have hol:oks W.nx l:=kX _ _ hl ((bO _ _).2 fun v hv=>by
   obtain⟨k,_,rfl⟩:=List.mem_map.1 hv
   exact ma _ _) (nk ht parts)
  have hp:(parts.map fun (x:Nat×Operand)=>(x.1,a.eval x.2)).toList=(parts.toList.map fun p=>(p.1,ev t p.2)).map fun x=>(x.1,cv ρ x.2):=by simp[ht.eval]
  have hcs:(aG ρ ((List.range (len * sz)).map fun k=>gy (ie.zero.toArray[k % ie.zero.toArray.size]!))).toArray=(Array.range (len * sz)).map fun k=>ie.zero.toArray[k % ie.zero.toArray.size]!:=by
   apply Array.ext'
   simp[bA,oN,Function.comp_def]
  rw[hcs] at qV
  refine⟨_,_,.inl ?_,hW.row hol e,Nat.lt_succ_self _⟩
  have hbig:¬(len * sz > 2 ^ 24):=by omega
  simp only[cv,Env.aP]
  by_cases h0:len * sz=0
  ·have e0:((Array.range (len * sz)).map fun k=>(#[]:Array Value)[k % (#[]:Array Value).size]!)=(Array.range (len * sz)).map fun k=>ie.zero.toArray[k % ie.zero.toArray.size]!:=by rw[h0];simp
   simp only[execOp,Instr.buildSlice,Sem.run_bind,run_underlying hu,Result.andThen_ok,fG hs,if_neg hbig,if_pos h0,Sem.run_pure,e0,hp,qV,newRow,newObj,lJ]
  ·have hzv:(zeroValue e).run P w= .ok z w:=by simp[zeroValue,typeInfo,hf,hfz]
   simp only[execOp,Instr.buildSlice,Sem.run_bind,run_underlying hu,Result.andThen_ok,fG hs,if_neg hbig,if_neg h0,Sem.run_pure,hzv,hz,hp,qV,newRow,newObj,lJ]
 ·rename_i c
  obtain⟨callee,args,ats⟩:=c
  dsimp only at h
  split at h
  case h_2=>cases h
  case h_1=>
  split at h
  ·rename_i x y s s' ha hs
   split at h
   ·rename_i hss
    obtain rfl:=(beq_iff _ _).1 hss
    obtain⟨p,q,rfl,rfl,rfl⟩:=abA ha
    obtain rfl:=NV hs
    obtain⟨ρ',w',h1,h2,h3⟩:=Kk (ty:=type) hT hW h (ht.fu p)
    refine⟨ρ',w',.inl ?_,h2,h3⟩
    simp only[execOp,resolve,Sem.run_bind,Sem.run_pure,Result.andThen_ok,invoke,builtin,List.map_toArray,List.map_cons,List.map_nil,ht.eval,h1]
   ·cases h
  ·cases h
 ·cases h
end
def agP:IntKind→Nat
 | .i64=>9223372036854775808
 | .u8=>256
 | .i32=>2147483648
 | .u64=>18446744073709551616
 | .u32=>4294967296
 |_=>0
theorem wrap_small {k:IntKind}{n:Nat}(h:n < agP k):k.wrap (n:Int)=(n:Int):=by
 cases k <;> simp only[agP] at h <;> first
  |omega
  |(rw[IntKind.wrap_i64];omega)
  |(rw[IntKind.wrap_u8];omega)
  |(rw[IntKind.wrap_i32];omega)
  |(rw[IntKind.wrap_u64];omega)
  |(rw[IntKind.wrap_u32];omega)
def UF (k:IntKind)(n:Nat):Option AV:=cond (Nat.blt n (agP k)) (some (.int k (.ofNat n))) none
def DF (op:BinOp)(k:IntKind)(a b:Nat):Option AV:=
 match op with
 | .add=>UF k (Nat.add a b)
 | .sub=>cond (Nat.ble b a) (UF k (Nat.sub a b)) none
 | .mul=>UF k (Nat.mul a b)
 | .eql=>some (.bool (Nat.beq a b))
 | .neq=>some (.bool (!Nat.beq a b))
 | .lss=>some (.bool (Nat.blt a b))
 | .leq=>some (.bool (Nat.ble a b))
 | .gtr=>some (.bool (Nat.blt b a))
 | .geq=>some (.bool (Nat.ble b a))
 |_=>none
theorem oq {k:IntKind}{n:Nat}{v:AV}(h:UF k n=some v)(ρ:Env):cv ρ v= .int k (k.wrap (n:Int))∧∀m,v.ok m:=by
 unfold UF at h
 cases hn:Nat.blt n (agP k) with
 |false=>rw[hn] at h;cases h
 |true=>
 rw[hn] at h
 obtain rfl:=zx h
 rw[wrap_small (aT hn)]
 exact⟨rfl,fun m=>trivial⟩
theorem Nh {P:Program}{op:BinOp}{k:IntKind}{a b:Nat}{v:AV}(h:DF op k a b=some v)(ρ:Env)(s:Nat)(w:World):(binOp op s (.int k (a:Int)) (.int k (b:Int))).run P w= .ok (cv ρ v) w∧∀m,v.ok m:=by
 unfold DF at h
 split at h
 ·obtain⟨h1,h2⟩:=oq h ρ
  refine⟨?_,h2⟩
  rw[h1]
  simp[binOp,Op.intArith]
 ·cases hb:Nat.ble b a with
  |false=>rw[hb] at h;cases h
  |true=>
  rw[hb] at h
  have hb:=Nat.le_of_ble_eq_true hb
  obtain⟨h1,h2⟩:=oq h ρ
  refine⟨?_,h2⟩
  rw[h1]
  have e:((Nat.sub a b:Nat):Int)=(a:Int) - (b:Int):=by
   show ((a - b:Nat):Int)=_
   omega
  rw[e]
  simp[binOp,Op.intArith]
 ·obtain⟨h1,h2⟩:=oq h ρ
  refine⟨?_,h2⟩
  rw[h1]
  have e:((Nat.mul a b:Nat):Int)=(a:Int) * (b:Int):=by
   show ((a * b:Nat):Int)=_
   simp
  rw[e]
  simp[binOp,Op.intArith]
 all_goals first
  |(obtain rfl:=zx h
    refine⟨?_,fun m=>trivial⟩
    have e0:((a:Int) == (b:Int))=Nat.beq a b:=by rw[Bool.eq_iff_iff,beq_iff_eq,beq_iff];omega
    have e1:((a:Int) != (b:Int))= !Nat.beq a b:=by rw[← e0];rfl
    simp only[binOp,Op.intCmp,cv]
    simp[e0,e1]
    first
     |done
     |(rw[Bool.eq_iff_iff];simp[Nat.blt_eq];done)
     |(rw[Bool.eq_iff_iff];simp[beq_iff];done)
     |(rw[Bool.eq_iff_iff];simp[Nat.ble_eq];done)
     |skip)
  |cases h
def D7:List Nat→List Nat→Bool
 |[],[]=>true
 |x::l,y::m=>if Nat.beq (bN x) (bN y) then D7 l m else false
 |_,_=>false
theorem ofNat_eq (x y:Nat):UInt8.ofNat x=UInt8.ofNat y↔bN x=bN y:=by
 rw[← UInt8.toNat_inj]
 simp[bN]
theorem oL:∀(l m:List Nat),D7 l m=true↔l.map UInt8.ofNat=m.map UInt8.ofNat
 |[],[]=>by simp[D7]
 |[],_::_=>by simp[D7]
 |_::_,[]=>by simp[D7]
 |x::l,y::m=>by
  simp only[D7,List.map_cons,List.cons.injEq,ofNat_eq]
  split
  ·rename_i h
   have h:=(beq_iff _ _).1 h
   rw[oL l m]
   simp[h]
  ·rename_i h
   have h:¬bN x=bN y:=fun e=>h ((beq_iff _ _).2 e)
   simp[h]
def aoj (d:Nat):Option AV→Option Nat
 |none=>some d
 |some v=>fQ v
def aiG:IntKind→Nat
 | .i8=>0 | .i16=>1 | .i32=>2 | .i64=>3 | .u8=>4 | .u16=>5 | .u32=>6 | .u64=>7
def kEq (k k':IntKind):Bool:=Nat.beq (aiG k) (aiG k')
theorem xC {k k':IntKind}(h:kEq k k'=true):k=k':=by
 cases k <;> cases k' <;> first | rfl | (exact absurd h (by decide))
def cZ:Int→Int→Bool
 | .ofNat a,.ofNat b=>Nat.blt a b
 | .ofNat _,.negSucc _=>false
 | .negSucc _,.ofNat _=>true
 | .negSucc a,.negSucc b=>Nat.blt b a
theorem bZ {a b:Int}:cZ a b=true↔a < b:=by
 cases a with
 |ofNat a=>cases b with
  |ofNat b=>
   show Nat.blt a b=true↔(a:Int) < (b:Int)
   rw[Nat.blt_eq];omega
  |negSucc b=>
   show false=true↔(a:Int) < Int.negSucc b
   simp only[Bool.false_eq_true,false_iff];omega
 |negSucc a=>cases b with
  |ofNat b=>
   show true=true↔Int.negSucc a < (b:Int)
   simp only[true_iff];omega
  |negSucc b=>
   show Nat.blt b a=true↔Int.negSucc a < Int.negSucc b
   rw[Nat.blt_eq];omega
def Ap (n:Int):List (Int×Int×Bool)→Option Bool
 |[]=>none
 |f::l=>cond f.2.2 (cond (cZ f.2.1 n) (some true) (cond (cZ f.1 n) (Ap n l) (some false))) (Ap n l)
def Ar (n:Int):List (Int×Int×Bool)→Option Bool
 |[]=>none
 |f::l=>cond f.2.2 (cond (cZ n f.1) (some true) (cond (cZ n f.2.1) (Ar n l) (some false))) (Ar n l)
def wF (n:Int):List (Int×Int×Bool)→Option Bool
 |[]=>none
 |f::l=>cond f.2.2 (cond (cZ n f.1) (some false) (cond (cZ f.2.1 n) (some false) (cond (cZ f.1 n) (wF n l) (cond (cZ n f.2.1) (wF n l) (some true))))) (wF n l)
theorem Ov {f:Int×Int×Bool}{l:List (Int×Int×Bool)}{x:Int}(h:iZ (f::l) x)(hf:f.2.2=true):f.1≤x∧x≤f.2.1:=by
 have:=h f zn
 rw[hf] at this
 simpa only[Bool.and_eq_true,decide_eq_true_eq] using this
theorem wD {f:Int×Int×Bool}{l:List (Int×Int×Bool)}{x:Int}(h:iZ (f::l) x):iZ l x:=fun g hg=>h g (zm _ hg)
theorem qi {n x:Int}:∀{fs:List (Int×Int×Bool)} {r:Bool},Ap n fs=some r→iZ fs x→decide (x < n)=r
 |[],_,h,_=>by cases h
 |f::l,r,h,hk=>by
  unfold Ap at h
  cases hf:f.2.2 with
  |false=>rw[hf] at h;exact qi h (wD hk)
  |true=>
   have:=Ov hk hf
   rw[hf] at h
   simp only[cond_true] at h
   cases h1:cZ f.2.1 n with
   |true=>
    rw[h1] at h
    obtain rfl:=zx h
    have:=bZ.1 h1
    simp;omega
   |false=>
    rw[h1] at h
    cases h2:cZ f.1 n with
    |true=>rw[h2] at h;exact qi h (wD hk)
    |false=>
     rw[h2] at h
     obtain rfl:=zx h
     have:¬f.1 < n:=fun e=>by rw[bZ.2 e] at h2;cases h2
     simp;omega
theorem qj {n x:Int}:∀{fs:List (Int×Int×Bool)} {r:Bool},Ar n fs=some r→iZ fs x→decide (n < x)=r
 |[],_,h,_=>by cases h
 |f::l,r,h,hk=>by
  unfold Ar at h
  cases hf:f.2.2 with
  |false=>rw[hf] at h;exact qj h (wD hk)
  |true=>
   have:=Ov hk hf
   rw[hf] at h
   simp only[cond_true] at h
   cases h1:cZ n f.1 with
   |true=>
    rw[h1] at h
    obtain rfl:=zx h
    have:=bZ.1 h1
    simp;omega
   |false=>
    rw[h1] at h
    cases h2:cZ n f.2.1 with
    |true=>rw[h2] at h;exact qj h (wD hk)
    |false=>
     rw[h2] at h
     obtain rfl:=zx h
     have:¬n < f.2.1:=fun e=>by rw[bZ.2 e] at h2;cases h2
     simp;omega
theorem mV {n x:Int}:∀{fs:List (Int×Int×Bool)} {r:Bool},wF n fs=some r→iZ fs x→(x == n)=r
 |[],_,h,_=>by cases h
 |f::l,r,h,hk=>by
  unfold wF at h
  cases hf:f.2.2 with
  |false=>rw[hf] at h;exact mV h (wD hk)
  |true=>
   have:=Ov hk hf
   rw[hf] at h
   simp only[cond_true] at h
   cases h1:cZ n f.1 with
   |true=>
    rw[h1] at h
    obtain rfl:=zx h
    have:=bZ.1 h1
    simp;omega
   |false=>
    rw[h1] at h
    cases h2:cZ f.2.1 n with
    |true=>
     rw[h2] at h
     obtain rfl:=zx h
     have:=bZ.1 h2
     simp;omega
    |false=>
     rw[h2] at h
     have n1:¬n < f.1:=fun e=>by rw[bZ.2 e] at h1;cases h1
     have n2:¬f.2.1 < n:=fun e=>by rw[bZ.2 e] at h2;cases h2
     cases h3:cZ f.1 n with
     |true=>rw[h3] at h;exact mV h (wD hk)
     |false=>
      rw[h3] at h
      have n3:¬f.1 < n:=fun e=>by rw[bZ.2 e] at h3;cases h3
      cases h4:cZ n f.2.1 with
      |true=>rw[h4] at h;exact mV h (wD hk)
      |false=>
       rw[h4] at h
       obtain rfl:=zx h
       have n4:¬n < f.2.1:=fun e=>by rw[bZ.2 e] at h4;cases h4
       simp;omega
def K9 (op:BinOp)(n:Int)(fs:List (Int×Int×Bool)):Option Bool:=
 match op with
 | .eql=>wF n fs
 | .neq=>(wF n fs).map (!·)
 | .lss=>Ap n fs
 | .geq=>(Ap n fs).map (!·)
 | .gtr=>Ar n fs
 | .leq=>(Ar n fs).map (!·)
 |_=>none
theorem K5 {P:Program}{op:BinOp}{n x:Int}{fs:List (Int×Int×Bool)}{r:Bool}(h:K9 op n fs=some r)(hk:iZ fs x)(s:Nat)(w:World):(binOp op s (.int .i64 x) (.int .i64 n)).run P w= .ok (.bool r) w:=by
 unfold K9 at h
 split at h
 ·have:=mV h hk
  simp[binOp,Op.intCmp,this]
 ·obtain⟨q,hq,rfl⟩:=Option.map_eq_some_iff.1 h
  have:=mV hq hk
  simp[binOp,Op.intCmp,bne,this]
 ·have:=qi h hk
  simp[binOp,Op.intCmp,this]
 ·obtain⟨q,hq,rfl⟩:=Option.map_eq_some_iff.1 h
  have:=qi hq hk
  have e:decide (n≤x)= !q:=by
   rw[← this]
   by_cases hh:x < n
   ·simp[hh,Int.not_le.2 hh]
   ·simp[hh,Int.not_lt.1 hh]
  simp[binOp,Op.intCmp,e]
 ·have:=qj h hk
  simp[binOp,Op.intCmp,this]
 ·obtain⟨q,hq,rfl⟩:=Option.map_eq_some_iff.1 h
  have:=qj hq hk
  have e:decide (x≤n)= !q:=by
   rw[← this]
   by_cases hh:n < x
   ·simp[hh,Int.not_le.2 hh]
   ·simp[hh,Int.not_lt.1 hh]
  simp[binOp,Op.intCmp,e]
 ·cases h
def XL (T:bG)(t:TT):Op→Option AV
 | .index s x ix=>match T.get s,ev t x,fQ (ev t ix) with
   |some i,.str l,some j=>match i.kd with
    | .string=>(l[j]?).map fun c=>.int .u8 (.ofNat (bN c))
    |_=>none
   |_,_,_=>none
 | .slice s x lo hi none=>match T.get s,ev t x with
   |some i,.str l=>match i.kd with
    | .string=>match aoj 0 (lo.map (ev t)),aoj l.length (hi.map (ev t)) with
      |some a,some b=>if Nat.ble a b && Nat.ble b l.length then some (.str ((l.drop a).take (b - a))) else none
      |_,_=>none
    |_=>none
   |_,_=>none
 | .binOp op _ x y _=>match ev t x,ev t y with
   | .str l,.str m=>match op with
     | .eql=>some (.bool (D7 l m))
     | .neq=>some (.bool (!D7 l m))
     | .add=>if Nat.ble (l.length+m.length) 1099511627776 then some (.str (l++m)) else none
     |_=>none
   | .int k (.ofNat a),.int k' (.ofNat b)=>cond (kEq k k') (DF op k a b) none
   | .sym fs _,.int k n=>cond (kEq .i64 k) ((K9 op n fs).map .bool) none
   |_,_=>none
 | .unOp .not _ x=>match ev t x with
   | .bool b=>some (.bool (!b))
   |_=>none
 | .call c=>match c.callee with
   | .builtin .len=>match c.args.toList.map (ev t),c.argTypes.toList with
     |[.str l],[s]=>match T.get s with
      |some i=>match i.kd with | .string=>some (.int .i64 (.ofNat l.length)) | _=>none
      |none=>none
     |_,_=>none
   |_=>none
 | .convert s d x=>match T.get s,T.get d,ev t x with
   |some _,some i,.int _ n=>match i.kd with
    | .int k=>match n with
      | .ofNat m=>match UF k m with
        |some v=>some v
        |none=>some (.int k (k.wrap n))
      |_=>some (.int k (k.wrap n))
    |_=>none
   |_,_,_=>none
 |_=>none
theorem aA (l:List Nat):(aa l).size=l.length:=by simp[aa,ByteArray.size]
theorem ll (l:List Nat):(aa l).toList=l.map UInt8.ofNat:=ByteArray.toList_mk _
theorem lq (l m:List Nat):((aa l).toList == (aa m).toList)=D7 l m:=by
 rw[ll,ll,Bool.eq_iff_iff,oL]
 simp
theorem Kc (l m:List Nat):aa l++aa m=aa (l++m):=by
 apply ByteArray.ext
 simp[aa,ByteArray.data_append]
theorem l6 (l:List Nat)(a b:Nat):(aa l).extract a b=aa ((l.drop a).take (b - a)):=by
 apply ByteArray.ext
 simp[aa,ByteArray.data_extract,List.map_take,List.map_drop,List.extract_eq_take_drop]
theorem BX {d a:Nat}{lo:Option AV}(h:aoj d lo=some a)(ρ:Env):(lo.map (cv ρ)=none∧a=d)∨∃k,lo.map (cv ρ)=some (.int k (a:Int)):=by
 cases lo with
 |none=>exact .inl ⟨rfl,(zx h).symm⟩
 |some v=>
  obtain⟨k,rfl⟩:=bP h
  exact .inr ⟨k,rfl⟩
theorem l7 {P:Program}{w:World}{k:IntKind}{j y:Nat}{code:BoundsCode}(h:j≤y):(Instr.sliceBound (.int k (j:Int)) y code).run P w= .ok j w:=by
 have c1:(0:Int)≤(j:Int)∧(j:Int)≤(y:Int):=⟨by omega,by omega⟩
 simp only[Instr.sliceBound,asIntOf,Sem.run_bind,Sem.run_pure,Result.andThen_ok,if_pos c1,Int.toNat_natCast]
theorem Tg {P:Program}{w:World}{s a b:Nat}{S:ByteArray}{lo hi:Option Value}(hu:P.underlying s=some .string)
 (hlo:(lo=none∧a=0)∨∃k,lo=some (.int k (a:Int))) (hhi:(hi=none∧b=S.size)∨∃k,hi=some (.int k (b:Int))) (h1:a≤b) (h2:b≤S.size):
 (Instr.sliceAt s (.string S) lo hi none).run P w= .ok (.string (S.extract a b)) w:=by
 rcases hlo with⟨rfl,rfl⟩ | ⟨k,rfl⟩ <;> rcases hhi with⟨rfl,rfl⟩ | ⟨k',rfl⟩
 ·simp[Instr.sliceAt,Instr.slice,Instr.sliceBounds,run_underlying hu]
 ·simp[Instr.sliceAt,Instr.slice,Instr.sliceBounds,run_underlying hu,l7 h2]
 ·simp[Instr.sliceAt,Instr.slice,Instr.sliceBounds,run_underlying hu,l7 h1]
 ·simp[Instr.sliceAt,Instr.slice,Instr.sliceBounds,run_underlying hu,l7 h1,l7 h2]
theorem U3 {α β:Type}{f:α→β}{a:Array α}{x:β}(h:a.toList.map f=[x]):∃p,a=#[p]∧f p=x:=by
 rcases a with⟨l⟩
 match l,h with
 |[p],h=>exact⟨p,rfl,by simpa using h⟩
theorem wH {P:Program}{T:bG}(hT:aW P T){ρ:Env}{n N:Nat}{t:TT}{a:Act}(ht:aR ρ n N t a){o:Oper}{v:AV}(h:XL T t o.op=some v)(w:World):
 (execOp a.eval o).run P w= .ok (.value (cv ρ v)) w∧v.ok n:=by
 obtain⟨dst,op,type,pos,after,guard⟩:=o
 dsimp only at h
 unfold XL at h
 split at h
 ·rename_i s x ix
  split at h
  ·rename_i i l j hi hx hj
   split at h
   ·rename_i hk
    obtain⟨c,hc,rfl⟩:=Option.map_eq_some_iff.1 h
    obtain⟨k,hj'⟩:=bP hj
    have hu:=(hT s i hi).string hk
    refine⟨?_,trivial⟩
    have e1:(aa l)[j]? =some (UInt8.ofNat c):=by
     have hj2:j < l.length:=(List.getElem?_eq_some_iff.1 hc).1
     have hcv:=(List.getElem?_eq_some_iff.1 hc).2
     rw[ByteArray.getElem?_lt' (aa l) j (by rw[aA];exact hj2)]
     simp[aa,ByteArray.getElem_eq_getElem_data,hcv]
    simp only[execOp,ht.eval,hx,hj',cv]
    simp[Instr.index,asIntOf,run_underlying hu,e1,bN]
   ·cases h
  ·cases h
 ·rename_i s x lo hi
  split at h
  ·rename_i i l hi' hx
   split at h
   ·rename_i hk
    split at h
    ·rename_i p q hp hq
     split at h
     ·rename_i hc
      simp only[Bool.and_eq_true] at hc
      obtain rfl:=zx h
      have hu:=(hT s i hi').string hk
      have hrun:=Tg (w:=w) (S:=aa l) hu (BX hp ρ) (by rw[aA];exact BX hq ρ) (Nat.le_of_ble_eq_true hc.1) (by rw[aA];exact Nat.le_of_ble_eq_true hc.2)
      have e1:∀q:Option Operand,q.map a.eval=(q.map (ev t)).map (cv ρ):=fun q=>by cases q <;> simp[ht.eval]
      refine⟨?_,trivial⟩
      simp only[execOp,e1,Option.map_none,ht.eval,hx,cv,Sem.run_bind,hrun,Result.andThen_ok,Sem.run_pure,l6]
     ·cases h
    ·cases h
   ·cases h
  ·cases h
 ·rename_i op s x y ty
  split at h
  ·rename_i l m hx hy
   split at h
   ·obtain rfl:=zx h
    refine⟨?_,trivial⟩
    simp only[execOp,ht.eval,hx,hy,cv,binOp,eqGuard,Op.stringOp,lq]
    rfl
   ·obtain rfl:=zx h
    refine⟨?_,trivial⟩
    simp only[execOp,ht.eval,hx,hy,cv,binOp,eqGuard,Op.stringOp,lq]
    rfl
   ·split at h
    ·rename_i hc
     have hc:=Nat.le_of_ble_eq_true hc
     obtain rfl:=zx h
     refine⟨?_,trivial⟩
     have hb:¬(((aa l).size+(aa m).size:Nat):Int) > IntKind.i64.max:=by
      rw[aA,aA]
      show ¬(_:Int) > 9223372036854775807
      omega
     simp only[execOp,ht.eval,hx,hy,cv,binOp,eqGuard,Op.stringOp,if_neg hb,Kc]
     rfl
    ·cases h
   ·cases h
  ·rename_i k a' k' b' hx hy
   cases hk:kEq k k' with
   |false=>rw[hk] at h;cases h
   |true=>
   rw[hk] at h
   obtain rfl:=xC hk
   obtain⟨h1,h2⟩:=Nh (P:=P) h ρ s w
   refine⟨?_,h2 n⟩
   have h1':(binOp op s (.int k (Int.ofNat a')) (.int k (Int.ofNat b'))).run P w= .ok (cv ρ v) w:=h1
   simp only[execOp,ht.eval,hx,hy,cv]
   have hg:(eqGuard op s x y (.int k (Int.ofNat a')) (.int k (Int.ofNat b'))).run P w= .ok () w:=by
    unfold eqGuard
    cases op <;> rfl
   simp only[Sem.run_bind,hg,Result.andThen_ok,h1',Sem.run_pure]
  ·rename_i fs z k m hx hy
   cases hk:kEq .i64 k with
   |false=>rw[hk] at h;cases h
   |true=>
   rw[hk] at h
   obtain rfl:=xC hk
   simp only[cond_true] at h
   obtain⟨r,hr,rfl⟩:=Option.map_eq_some_iff.1 h
   have hok:iZ fs z:=by
    have:=ht.fu x
    rw[hx] at this
    exact this
   have h1':=K5 (P:=P) hr hok s w
   refine⟨?_,trivial⟩
   simp only[execOp,ht.eval,hx,hy,cv]
   have hg:(eqGuard op s x y (.int .i64 z) (.int .i64 m)).run P w= .ok () w:=by
    unfold eqGuard
    cases op <;> rfl
   simp only[Sem.run_bind,hg,Result.andThen_ok,h1',Sem.run_pure]
  ·cases h
 ·rename_i ty x
  split at h
  ·rename_i b hx
   obtain rfl:=zx h
   refine⟨?_,trivial⟩
   simp only[execOp,ht.eval,hx,cv,Op.unary,Sem.run_bind,Sem.run_pure,Result.andThen_ok]
  ·cases h
 ·rename_i c
  obtain⟨callee,args,ats⟩:=c
  dsimp only at h
  split at h
  case h_2=>cases h
  case h_1=>
  split at h
  ·rename_i l s ha hs
   split at h
   ·rename_i i hi
    split at h
    ·rename_i hk
     obtain rfl:=zx h
     have hu:=(hT s i hi).string hk
     obtain⟨p,rfl,hp⟩:=U3 ha
     have hs':ats=#[s]:=by rw[← hs]
     subst hs'
     have hx:=ht.eval p
     rw[hp] at hx
     refine⟨?_,trivial⟩
     simp[execOp,resolve,invoke,builtin,Builtin.len_,hx,cv,run_underlying hu,goInt,aA]
    ·cases h
   ·cases h
  ·cases h
 ·rename_i s d x
  split at h
  ·rename_i j i k n hs hd hx
   split at h
   ·rename_i k2 hk
    obtain⟨ds,hus,_⟩:=(hT s j hs).under
    have hud:=(hT d i hd).int hk
    have hv:cv ρ v= .int k2 (k2.wrap n)∧∀m,v.ok m:=by
     split at h
     ·split at h
      ·rename_i u hu
       obtain rfl:=zx h
       exact oq hu ρ
      ·obtain rfl:=zx h
       exact⟨rfl,fun m=>trivial⟩
     ·obtain rfl:=zx h
      exact⟨rfl,fun m=>trivial⟩
    refine⟨?_,hv.2 _⟩
    simp only[execOp,ht.eval,hx,cv]
    rw[hv.1]
    simp[convert,run_underlying hus,run_underlying hud,Conv.intToInt]
   ·cases h
  ·cases h
 ·cases h
def mJ:Nat→List AV→List AV
 |0,_=>[]
 |n+1,z=>z++mJ n z
theorem oh (z:List AV):∀n,mJ (n+1) z=mJ n z++z
 |0=>by simp[mJ]
 |n+1=>by
  show z++mJ (n+1) z=_
  rw[oh z n]
  have h:=oh z n
  show z++(mJ n z++z)=mJ n z++z++z
  rw[← List.append_assoc,show z++mJ n z=mJ n z++z from h]
theorem uy (z:List AV):∀n,(mJ n z).length=n * z.length
 |0=>by simp[mJ]
 |n+1=>by rw[oh,List.length_append,uy z n,Nat.succ_mul]
theorem Dc {k:Nat}{z:List AV}(h:oks k z):∀n,oks k (mJ n z)
 |0=>trivial
 |n+1=>bg h (Dc h n)
theorem AQ (ρ:Env)(z:List Value)(c sz:Nat)(hz:z.length=sz):aG ρ (mJ c (z.map gy))=(madeCells z.toArray (c * sz)).toList:=by
 induction c with
 |zero=>simp[mJ,aG,madeCells]
 |succ c ih=>
  rw[oh,qc,ih,jO]
  unfold madeCells
  simp only[Array.toList_map,Array.toList_range]
  rw[Nat.succ_mul,List.range_add,List.map_append]
  congr 1
  apply List.ext_getElem?
  intro j
  simp only[List.map_map,List.getElem?_map]
  by_cases hj:j < sz
  ·rw[List.getElem?_range hj,List.getElem?_eq_getElem (by omega)]
   simp only[Option.map_some,Function.comp_apply,List.size_toArray,hz]
   have e:(c * sz+j) % sz=j:=by rw[Nat.mul_comm,Nat.mul_add_mod,Nat.mod_eq_of_lt hj]
   rw[e]
   simp[hz,hj]
  ·rw[List.getElem?_eq_none (by omega),List.getElem?_eq_none (by simp;omega)]
   rfl
theorem J2 (ρ:Env)(l:List AV)(n:Nat):aG ρ (l.take n)=(aG ρ l).take n:=by simp[bA,List.map_take]
def um (l:List Nat):List AV:=l.map fun c=>.int .u8 (.ofNat (bN c))
theorem uk (ρ:Env)(l:List Nat):aG ρ (um l)=Go.Lib.strCells (aa l):=by
 simp[um,Go.Lib.strCells,bA,cv,aa,bN]
theorem Ff (n:Nat)(l:List Nat):oks n (um l):=(bO _ _).2 fun v hv=>by
 obtain⟨c,_,rfl⟩:=List.mem_map.1 hv
 trivial
def nO:List AV→Option (List Nat)
 |[]=>some []
 | .int .u8 (.ofNat c)::l=>(nO l).map (c:: ·)
 |_=>none
theorem nN (ρ:Env):∀(l:List AV) {m:List Nat},nO l=some m→aG ρ l=m.map fun (c:Nat)=>Value.int .u8 (c:Int)
 |[],m,h=>by simp only[nO,Option.some.injEq] at h;subst h;rfl
 |v::l,m,h=>by
  unfold nO at h
  split at h
  ·rename_i e;cases e
  ·rename_i c l' e
   obtain⟨rfl,rfl⟩:=List.cons.inj e
   obtain⟨m',h1,rfl⟩:=Option.map_eq_some_iff.1 h
   rw[aG,nN ρ _ h1]
   rfl
  ·cases h
def axg (op:Option Nat)(n m:Nat):Bool:=match op with | none=>Nat.beq m n | some _=>Nat.ble n m
def vU (T:bG)(W:AW)(s u:Nat)(x:AV)(l:List Nat):Option (AV×AW):=
 match T.get s,T.get u with
 |some i,some iu=>match i.kd,iu.kd with
  | .slice e 1 1,.string=>match T.get e with
    |some ie=>match ie.zero with
     |[.int .u8 0]=>if Nat.beq ie.size 1 && !ie.row then
      match x with
      | .aX=>match l with
        |[]=>some (.aX,W)
        |_=>if Nat.ble l.length 1099511627776 then some (.slice W.nx 0 0 l.length none,W.push (.cells (um l) e (some 1))) else none
      | .slice b 0 0 n c=>match au b W.bl with
        |some (.cells vs e' op)=>
         if Nat.beq e' e && axg op n vs.length && ownB op c n 1 && Nat.ble (n+l.length) 1099511627776 && Nat.blt 0 (n+l.length) then
          some (.slice W.nx 0 0 (n+l.length) none,⟨W.nx+1,(W.nx,.cells (vs.take n++um l) e (some 1))::rO b W.bl,addN b W.az,W.gl⟩)
         else none
        |_=>none
      |_=>none
      else none
     |_=>none
    |none=>none
  |_,_=>none
 |_,_=>none
theorem Kl {P:Program}{T:bG}(hT:aW P T){w0:World}{ρ:Env}{W W':AW}{w:World}(hW:aO w0 ρ W w){s u ty:Nat}{x v:AV}{l:List Nat}(h:vU T W s u x l=some (v,W'))(hx:x.ok W.nx):
 ∃ρ' w',(Builtin.append_ #[s,u] ty #[cv ρ x,.string (aa l)]).run P w= .ok (cv ρ' v) w'∧Post w0 ρ W w ρ' W' w'∧v.ok W'.nx:=by
 unfold vU at h
 split at h
 case h_2=>cases h
 case h_1 i iu hi hiu=>
 split at h
 case h_2=>cases h
 case h_1 e hk hku=>
 split at h
 case h_2=>cases h
 case h_1 ie hie=>
 split at h
 case h_2=>cases h
 case h_1 hz=>
 split at h
 case isFalse=>cases h
 case isTrue hsz=>
 simp only[Bool.and_eq_true,Bool.not_eq_true'] at hsz
 obtain⟨hsz,hrow⟩:=hsz
 have hsz:=(beq_iff _ _).1 hsz
 obtain⟨hu,hs,hby,hpos⟩:=(hT s i hi).slice hk
 have hus:=(hT u iu hiu).string hku
 obtain⟨f,z,hf,hfs,hfz,hzc⟩:=(hT e ie hie).info
 have kU:f.bytes=1:=by rw[hf] at hby;simpa using hby
 have hrow:ie.row=false:=hrow
 obtain⟨f',z',hf',hz',hzz⟩:=(hT e ie hie).one hrow
 rw[hf] at hf'
 obtain rfl:=zx hf'
 have hz0:f.zero=some (.int .u8 0):=by
  rw[hz',(List.cons.inj (hz.symm.trans hzz)).1]
 split at h
 ·split at h
  ·obtain⟨rfl,rfl⟩:=zw (zx h)
   obtain⟨v',w',hrun,hown,hg,hnil⟩:=Go.Lib.run_append_own_string (P:=P) (w:=w) 0 s u ty e f hu hus hf hz0 (by rw[hfs,hsz]) kU (.slice none 0 0) 0 [] (World.ownsRow_nil _ _ _ _) (aa []) (by simp[aA]) (by simp[aA]) (Nat.zero_le _)
   have hv':=hnil.2 ⟨rfl,rfl⟩
   subst hv'
   refine⟨ρ,w',hrun,hW.quiet ((Gr.kL hg).mono fun i _ e=>by simp[Value.ownBlock] at e),trivial⟩
  ·rename_i hl
   split at h
   case isFalse=>cases h
   case isTrue hb=>
   have hb:=Nat.le_of_ble_eq_true hb
   have hpos':0 < l.length:=by
    cases l with
    |nil=>exact (hl rfl).elim
    |cons a b=>simp
   obtain⟨rfl,rfl⟩:=zw (zx h)
   obtain⟨v',w',hrun,hown,hg,_⟩:=Go.Lib.run_append_own_string (P:=P) (w:=w) w.heap.size s u ty e f hu hus hf hz0 (by rw[hfs,hsz]) kU (.slice none 0 0) 0 [] (World.ownsRow_nil _ _ _ _) (aa l) (by rw[aA];simp only[maxLen];omega) (by rw[aA];omega) (zu _)
   rw[aA,Nat.zero_add] at hown
   rcases hown.2 with⟨_,h0⟩ | ⟨g,cap,cur,rfl,hgw,q2,q3,q4,q5,q6⟩
   ·omega
   have q1:g < w'.heap.size:=(Array.getElem?_eq_some_iff.1 q2).1
   have hgr:Gr w w' (fun _=>False):=(Gr.kL hg).mono fun i _ e=>by simp[Value.ownBlock] at e
   refine⟨_,w',?_,hW.new (c:=cap) hgr hgw q1 (Ff _ l) ?_,Nat.lt_succ_self _⟩
   ·simp only[cv,Env.aP,Env.bX]
    rw[hrun,Nat.sub_zero]
   ·refine⟨l.length,cur,?_,?_,?_,?_,by simp[um],?_⟩
    ·rw[Env.aP];exact q2
    ·rw[Env.bX];exact q3
    ·rw[Env.bX];exact q4
    ·rw[Env.bX];exact q5
    ·rw[uk]
     simpa using q6
 ·rename_i b n c'
  split at h
  case h_2=>cases h
  case h_1 vs e' op hb=>
  split at h
  case isFalse=>cases h
  case isTrue hcc=>
  simp only[Bool.and_eq_true] at hcc
  obtain⟨⟨⟨⟨he,hvl⟩,hop⟩,hbd⟩,hnz⟩:=hcc
  obtain rfl:=(beq_iff _ _).1 he
  have Kz:(vs.take n).length=n:=by
   rw[List.length_take]
   cases op with
   |none=>have:=(beq_iff _ _).1 hvl;omega
   |some _=>have:=Nat.le_of_ble_eq_true hvl;omega
  have hvt:op=none→vs.take n=vs:=fun e=>by
   subst e
   have:=(beq_iff _ _).1 hvl
   exact List.take_of_length_le (by omega)
  have hbd:=Nat.le_of_ble_eq_true hbd
  have hnz:=aT hnz
  have hrep:=hW.rep b _ hb
  have hown:∃cap cur,cv ρ (.slice b 0 0 n c')= .slice (some ⟨ρ.blk b,0,none⟩) n cap∧w.heap[ρ.blk b]? =some (.cells cur e' (0,0))∧n≤cap∧cap≤maxLen∧cur.size=cap * 1∧cur.toList.take (n * 1)=aG ρ (vs.take n):=by
   cases op with
   |none=>
    cases c' with
    |none=>cases hop
    |some c''=>
     have hop:c''=n:=(beq_iff _ _).1 hop
     subst hop
     rw[hvt rfl] at Kz ⊢
     exact⟨c'',_,rfl,hrep,zu _,by simp only[maxLen];omega,by simp[ak,Kz],List.take_of_length_le (by simp[ak,Kz])⟩
   |some Ou=>
    cases c' with
    |some _=>cases hop
    |none=>
     have hop:Ou=1:=(beq_iff _ _).1 hop
     subst hop
     obtain⟨n',cur,q1,q2,q3,q4,q5,q6⟩:=hrep
     have hnn:n≤n':=by
      rw[List.length_take] at Kz
      omega
     refine⟨ρ.cap b,cur,by simp[cv],q1,by omega,q3,q4,?_⟩
     have e1:=congrArg (List.take n) q6
     rw[List.take_take] at e1
     rw[J2,← e1]
     congr 1
     omega
  obtain⟨cap0,atX,hcv,hheap,hn1,hn2,hn3,hn4⟩:=hown
  have hown:w.ownsRow 0 e' 1 (.slice (some ⟨ρ.blk b,0,none⟩) n cap0) n (aG ρ (vs.take n)):=⟨by rw[ak,Kz,Nat.mul_one],.inr ⟨_,cap0,atX,rfl,Nat.zero_le _,hheap,hn1,hn2,hn3,hn4⟩⟩
  obtain⟨rfl,rfl⟩:=zw (zx h)
  obtain⟨v',w',hrun,hown',hg,_⟩:=Go.Lib.run_append_own_string (P:=P) (w:=w) 0 s u ty e' f hu hus hf hz0 (by rw[hfs,hsz]) kU _ n (aG ρ (vs.take n)) hown (aa l) (by rw[aA];simp only[maxLen];omega) (by rw[aA];omega) (Nat.zero_le _)
  rw[aA] at hown'
  rcases hown'.2 with⟨_,h0⟩ | ⟨g,cap,cur,rfl,_,q2,q3,q4,q5,q6⟩
  ·omega
  have q1:g < w'.heap.size:=(Array.getElem?_eq_some_iff.1 q2).1
  have hgb:g=ρ.blk b∨w.heap.size≤g:=by
   by_cases hroom:n+(aa l).size≤cap0
   ·have hr:=Go.Lib.run_append_room_string (P:=P) w s u ty e' f hu hus hf (by rw[hfs,hsz]) (ρ.blk b) n cap0 atX hheap (aa l) hroom (by omega)
    rw[hrun] at hr
    injection hr with h1 h2
    injection h1 with h3 h4 h5
    injection h3 with h6
    injection h6 with h7
    exact .inl h7
   ·have holds:∀j u,(aG ρ (vs.take n))[j]? =some u→w.cell? ((⟨ρ.blk b,0,none⟩:Addr).add j)=some u:=hown.cells (g:=ρ.blk b) rfl
    have hr:=Go.Lib.run_append_grow_string (P:=P) w s u ty e' f (.int .u8 0) hu hus hf hz0 ⟨ρ.blk b,0,none⟩ n cap0 (aG ρ (vs.take n)) (by rw[hfs,hsz,ak,Kz,Nat.mul_one]) holds (aa l) (by omega) (by rw[aA];omega) (by rw[kU];rw[aA] at hroom ⊢;exact growslice_fits (by omega) (by omega))
    rw[hrun] at hr
    injection hr with h1 h2
    injection h1 with h3 h4 h5
    injection h3 with h6
    injection h6 with h7
    exact .inr (by omega)
  have hgr:Gr w w' (fun i=>ρ.blk b=i):=(Gr.kL hg).mono fun i _ e=>zx e
  have ve:oks W.nx (vs.take n++um l):=bg (gY (hW.ok b _ hb).2.1 _) (Ff _ _)
  refine⟨_,w',?_,hW.turn (c:=cap) hb hgr hgb q1 ve ?_,Nat.lt_succ_self _⟩
  ·rw[hcv,hrun]
   simp only[cv,Env.aP,Env.bX,Nat.sub_zero]
  ·refine⟨n+l.length,cur,?_,?_,?_,?_,by rw[List.length_append,Kz];simp[um],?_⟩
   ·rw[Env.aP];exact q2
   ·rw[Env.bX];exact q3
   ·rw[Env.bX];exact q4
   ·rw[Env.bX];exact q5
   ·rw[cu (Env.fM ρ W.nx g cap) _ ve,qc,uk]
    exact q6
 ·cases h
def RB (T:bG)(W:AW)(s l c:Nat):Option (AV×AW):=
 match T.get s with
 |some i=>match i.kd with
  | .slice e sz rT=>match T.get e with
    |some ie=>
     if Nat.ble l c && Nat.beq ie.size sz && Nat.beq ie.zero.length sz && Nat.ble (c * sz) 65536 && Nat.ble (c * (rT+1)) 1048576 then
      some (.slice W.nx 0 0 l (some c),W.push (.cells (mJ c (ie.zero.map gy)) e none)) else none
    |none=>none
  |_=>none
 |none=>none
theorem UR {P:Program}{T:bG}(hT:aW P T){w0:World}{ρ:Env}{W W':AW}{w:World}(hW:aO w0 ρ W w){s l c:Nat}{kl kc:IntKind}{v:AV}(h:RB T W s l c=some (v,W')):
 ∃ρ' w',(Instr.makeSlice s (.int kl (l:Int)) (.int kc (c:Int))).run P w= .ok (cv ρ' v) w'∧Post w0 ρ W w ρ' W' w'∧v.ok W'.nx:=by
 unfold RB at h
 split at h
 case h_2=>cases h
 case h_1 i hi=>
 split at h
 case h_2=>cases h
 case h_1 e sz rT hk=>
 split at h
 case h_2=>cases h
 case h_1 ie hie=>
 split at h
 case isFalse=>cases h
 case isTrue hc=>
 simp only[Bool.and_eq_true] at hc
 obtain⟨⟨⟨⟨h1,h2⟩,h3⟩,h4⟩,h5⟩:=hc
 have h1:=Nat.le_of_ble_eq_true h1
 have h2:=(beq_iff _ _).1 h2
 have h3:=(beq_iff _ _).1 h3
 have h4:=Nat.le_of_ble_eq_true h4
 have h5:=Nat.le_of_ble_eq_true h5
 rw[Nat.mul_succ] at h5
 obtain⟨rfl,rfl⟩:=zw (zx h)
 obtain⟨hu,hs,hby,hpos⟩:=(hT s i hi).slice hk
 obtain⟨f,z,hf,hfs,hfz,hzc⟩:=(hT e ie hie).info
 have kU:f.bytes=rT:=by rw[hf] at hby;simpa using hby
 have hrun:=run_makeSlice (P:=P) w s e f z hu hf hfz kl kc (l:Int) (c:Int) (by omega) (by omega) (by rw[hfs,h2];simp;omega) (by
  rw[kU]
  have:((c * rT:Nat):Int)≤1048576:=by omega
  rw[Int.natCast_mul,Int.mul_comm] at this
  omega) (by omega)
 have hzl:z.cells=ie.zero.toArray:=by rw[← hzc]
 have hcells:(aG ρ (mJ c (ie.zero.map gy))).toArray=madeCells z.cells ((c:Int).toNat * f.size):=by
  rw[AQ ρ ie.zero c sz h3,hfs,h2,hzl]
  rfl
 have hp:=hW.row (Dc (gI W.nx ie.zero) c) e
 rw[hcells] at hp
 refine⟨_,_,?_,hp,Nat.lt_succ_self _⟩
 rw[hrun]
 simp only[cv,Env.aP,Int.toNat_natCast]
def Sc (T:bG)(W:AW)(s u:Nat)(x y:AV):Option (AV×AW):=
 match T.get s,T.get u with
 |some i,some iu=>match i.kd,iu.kd with
  | .slice _e 1 _,.slice _ 1 _=>match x with
    | .slice b o _ n _=>match au b W.bl,kI W.bl 1 y with
      |some (.cells vs e' op),some (m,news)=>
       let k:=if Nat.ble m n then m else n
       let cs:=news.take k
       if cs.all qH && Nat.ble (o+k) vs.length && Nat.blt 0 k then
        some (.int .i64 (.ofNat k),⟨W.nx,gF b (.cells (vs.take o++cs++vs.drop (o+k)) e' op) W.bl,addN b W.az,W.gl⟩)
       else if Nat.beq k 0 then some (.int .i64 (.ofNat 0),W) else none
      |none,some (0,_)=>some (.int .i64 (.ofNat 0),W)
      |_,_=>none
    | .aX=>match kI W.bl 1 y with
      |some _=>some (.int .i64 (.ofNat 0),W)
      |none=>none
    | .zh _=>match kI W.bl 1 y with
      |some _=>some (.int .i64 (.ofNat 0),W)
      |none=>none
    |_=>none
  |_,_=>none
 |_,_=>none
theorem kH {ρ:Env}{W:AW}{w0 w:World}(hW:aO w0 ρ W w){y:AV}{m:Nat}{news:List AV}(h:kI W.bl 1 y=some (m,news)):
 ∃A c,cv ρ y= .slice A m c∧news.length=m∧Rd w (fun _=>True) A (aG ρ news)∧oks W.nx news:=by
 obtain⟨A,c,h1,h2,h3,h4⟩:=jA (fun b k hb=>⟨(hW.ok b k hb).2.1,hW.rep b k hb⟩) h
 exact⟨A,c,h1,by omega,h3,h4⟩
theorem VG {P:Program}{T:bG}(hT:aW P T){w0:World}{ρ:Env}{W W':AW}{w:World}(hW:aO w0 ρ W w){s u ty:Nat}{x y v:AV}(h:Sc T W s u x y=some (v,W')):
 ∃w',(Builtin.copy_ #[s,u] ty #[cv ρ x,cv ρ y]).run P w= .ok (cv ρ v) w'∧Post w0 ρ W w ρ W' w'∧v.ok W'.nx:=by
 unfold Sc at h
 split at h
 case h_2=>cases h
 case h_1 i iu hi hiu=>
 split at h
 case h_2=>cases h
 case h_1 e rT e2 by2 hk hku=>
 obtain⟨hu,hs,_,_⟩:=(hT s i hi).slice hk
 have hs1:(P.info? e).map (·.size)=some 1:=by simpa [jV] using hs
 split at h
 ·rename_i b o k0 n c
  have hx:∃cp,cv ρ (.slice b o k0 n c)= .slice (some ⟨ρ.blk b,o,none⟩) n cp:=by cases c <;> exact⟨_,rfl⟩
  obtain⟨cp,hx⟩:=hx
  split at h
  ·rename_i vs e' op m news hb hr
   obtain⟨A,cy,hy,hlen,hrd,hno⟩:=kH hW hr
   dsimp only at h
   obtain⟨k,hk0⟩:∃k,(if Nat.ble m n then m else n)=k:=⟨_,rfl⟩
   rw[hk0] at h
   have hmin:k=Nat.min m n:=by
    rw[← hk0]
    by_cases hmn:m≤n
    ·rw[if_pos (Nat.ble_eq_true_of_le hmn)];exact (Nat.min_eq_left hmn).symm
    ·rw[if_neg (fun e=>hmn (Nat.le_of_ble_eq_true e))];exact (Nat.min_eq_right (by omega)).symm
   split at h
   ·rename_i hc
    simp only[Bool.and_eq_true] at hc
    obtain⟨⟨hone,hfit⟩,hpos⟩:=hc
    have hfit:=Nat.le_of_ble_eq_true hfit
    have hpos:=aT hpos
    obtain⟨rfl,rfl⟩:=zw (zx h)
    obtain⟨p1,p2,p3,p4⟩:=hW.ok _ _ hb
    obtain⟨cur,mM,hcell⟩:=mZ (hW.rep _ _ hb)
    have hkm:k≤m:=by rw[hmin];exact Nat.min_le_left _ _
    have hcl:(news.take k).length=k:=by rw[List.length_take];omega
    have hnl:news≠[]:=fun e=>by rw[e] at hlen;simp at hlen;omega
    obtain⟨ad,rfl,_,hsrc⟩:=hrd (by cases news with | nil=>exact (hnl rfl).elim | cons a l=>simp[aG])
    have hvl:vs.length≤cur.size:=by
     rcases Nat.lt_or_ge cur.size vs.length with hlt | hge
     ·have:=hcell cur.size _ (List.getElem?_eq_getElem hlt)
      simp at this
     ·exact hge
    have hrun:=run_copy_row (P:=P) w s u ty e (ρ.blk b) o n cp ad m cy cur e' (aG ρ (news.take k)) hu hs1 mM (by rw[ak,hcl,hmin]) (fun j v hj=>by
     rw[J2] at hj
     refine hsrc j v ?_
     rw[List.getElem?_take] at hj
     split at hj
     ·exact hj
     ·cases hj) (by rw[ak,hcl];omega) (rG hone ρ)
    rw[ak,hcl] at hrun
    have hh:=setRow_heap w (ρ.blk b) cur (cur.toList.take o++aG ρ (news.take k)++cur.toList.drop (o+k)).toArray e' (0,0) mM
    refine⟨w.setRow (ρ.blk b) (cur.toList.take o++aG ρ (news.take k)++cur.toList.drop (o+k)).toArray,by rw[hx,hy];exact hrun,hW.write hb ⟨rfl,rfl,rfl,by simp,fun j _ hj=>?_⟩ (bg (bg (gY p2 _) (gY hno _)) (jD p2 _)) ?_,trivial⟩
    ·simp only[World.setRow]
     rw[Array.getElem?_modify,if_neg hj]
    ·cases op with
     |none=>
      have hc:w.heap[ρ.blk b]? =some (.cells (aG ρ vs).toArray e' (0,0)):=hW.rep _ _ hb
      rw[mM] at hc
      have hcv:cur=(aG ρ vs).toArray:=by injection (zx hc)
      show _=_
      rw[hh]
      subst hcv
      simp[bA,List.map_append,List.map_take,List.map_drop]
     |some sz=>
      obtain⟨n',cur',q1,q2,q3,q4,q5,q6⟩:=hW.rep _ _ hb
      rw[mM] at q1
      have hcc:cur=cur':=by injection (zx q1)
      subst hcc
      refine⟨n',_,hh,q2,q3,?_,?_,?_⟩
      ·simp[ak];omega
      ·simp;omega
      ·have e1:=wB cur.toList (aG ρ (news.take k)) o (n' * sz) (by rw[ak,hcl];omega) (by rw[Array.length_toList,q4];exact Nat.mul_le_mul_right _ q2)
       rw[ak,hcl] at e1
       simp only
       rw[e1,q6]
       simp[bA,List.map_append,List.map_take,List.map_drop]
   ·split at h
    ·rename_i hk1
     have hk1:=(beq_iff _ _).1 hk1
     obtain⟨rfl,rfl⟩:=zw (zx h)
     have hrun:=run_copy_none (P:=P) w s u ty e (some ⟨ρ.blk b,o,none⟩) A n cp m cy hu hs1 (by rw[← hmin,hk1])
     exact⟨w,by rw[hx,hy];exact hrun,Post.refl hW,trivial⟩
    ·cases h
  ·rename_i m' hb hr
   obtain⟨A,cy,hy,hlen,hrd,hno⟩:=kH hW hr
   obtain⟨rfl,rfl⟩:=zw (zx h)
   have hrun:=run_copy_none (P:=P) w s u ty e (some ⟨ρ.blk b,o,none⟩) A n cp 0 cy hu hs1 (Nat.zero_min _)
   exact⟨w,by rw[hx,hy];exact hrun,Post.refl hW,trivial⟩
  ·cases h
 ·split at h
  ·rename_i r hr
   obtain⟨m,news⟩:=r
   obtain⟨A,cy,hy,hlen,hrd,hno⟩:=kH hW hr
   obtain⟨rfl,rfl⟩:=zw (zx h)
   have hrun:=run_copy_none (P:=P) w s u ty e none A 0 0 m cy hu hs1 (Nat.min_zero _)
   exact⟨w,by rw[hy];exact hrun,Post.refl hW,trivial⟩
  ·cases h
 ·rename_i j
  split at h
  ·rename_i r hr
   obtain⟨m,news⟩:=r
   obtain⟨A,cy,hy,hlen,hrd,hno⟩:=kH hW hr
   obtain⟨rfl,rfl⟩:=zw (zx h)
   have hrun:=run_copy_none (P:=P) w s u ty e (some (ρ.es j).1) A 0 (ρ.es j).2 m cy hu hs1 (Nat.min_zero _)
   exact⟨w,by rw[hy];exact hrun,Post.refl hW,trivial⟩
  ·cases h
 ·cases h
def Ep (T:bG)(W:AW)(s:Nat):AV→Option (AV×AW)
 | .slice b o _ n _=>match T.get s with
   |some i=>match i.kd with
    | .slice e sz _=>match T.get e,au b W.bl with
      |some ie,some (.cells vs e' op)=>
       let cs:=mJ n (ie.zero.map gy)
       if Nat.blt 0 n && Nat.beq ie.zero.length sz && cs.all qH && Nat.ble (o+n * sz) vs.length then
        some (.tuple [],⟨W.nx,gF b (.cells (vs.take o++cs++vs.drop (o+n * sz)) e' op) W.bl,addN b W.az,W.gl⟩) else none
      |_,_=>none
    |_=>none
   |none=>none
 |_=>none
theorem NL {P:Program}{T:bG}(hT:aW P T){w0:World}{ρ:Env}{W W':AW}{w:World}(hW:aO w0 ρ W w){s ty:Nat}{x v:AV}(h:Ep T W s x=some (v,W')):
 ∃w',(Builtin.clear_ #[s] ty #[cv ρ x]).run P w= .ok (cv ρ v) w'∧Post w0 ρ W w ρ W' w'∧v.ok W'.nx:=by
 unfold Ep at h
 split at h
 case h_2=>cases h
 case h_1 b o k0 n c=>
 split at h
 case h_2=>cases h
 case h_1 i hi=>
 split at h
 case h_2=>cases h
 case h_1 e sz rT hk=>
 obtain⟨hu,hs,_,_⟩:=(hT s i hi).slice hk
 split at h
 case h_2=>cases h
 case h_1 ie vs e' op hie hb=>
 dsimp only at h
 split at h
 case isFalse=>cases h
 case isTrue hc=>
 simp only[Bool.and_eq_true] at hc
 obtain⟨⟨⟨hpos,hzl⟩,hone⟩,hfit⟩:=hc
 have hpos:=aT hpos
 have hzl:=(beq_iff _ _).1 hzl
 have hfit:=Nat.le_of_ble_eq_true hfit
 obtain⟨rfl,rfl⟩:=zw (zx h)
 obtain⟨f,z,hf,hfs,hfz,hzc⟩:=(hT e ie hie).info
 obtain⟨p1,p2,p3,p4⟩:=hW.ok _ _ hb
 obtain⟨cur,mM,hcell⟩:=mZ (hW.rep _ _ hb)
 have hx:∃cp,cv ρ (.slice b o k0 n c)= .slice (some ⟨ρ.blk b,o,none⟩) n cp:=by cases c <;> exact⟨_,rfl⟩
 obtain⟨cp,hx⟩:=hx
 obtain⟨cs,hcs⟩:∃cs,mJ n (ie.zero.map gy)=cs:=⟨_,rfl⟩
 have hcl:cs.length=n * sz:=by rw[← hcs,uy,List.length_map,hzl]
 have hno:oks W.nx cs:=by rw[← hcs];exact Dc (gI W.nx ie.zero) n
 rw[hcs] at hone ⊢
 have hvl:vs.length≤cur.size:=by
  rcases Nat.lt_or_ge cur.size vs.length with hlt | hge
  ·have:=hcell cur.size _ (List.getElem?_eq_getElem hlt)
   simp at this
  ·exact hge
 have hzz:(Builtin.zeroCells z.cells n).toList=aG ρ cs:=by
  rw[← hcs,AQ ρ ie.zero n sz hzl]
  have e1:z.cells=ie.zero.toArray:=by rw[← hzc]
  rw[e1]
  unfold Builtin.zeroCells madeCells
  rw[show ie.zero.toArray.size=sz from hzl]
 have hst:=run_storeCells_at P (ρ.blk b) o e' (aG ρ cs) 0 cur w mM (by rw[ak,hcl];simp;omega) (rG hone ρ)
 rw[Nat.add_zero,ak,hcl] at hst
 have hzv:(zeroValue e).run P w= .ok z w:=by
  simp only[zeroValue,typeInfo,Sem.run_bind,run_program,hf,Result.andThen_ok,Sem.run_pure,hfz]
 have hh:=setRow_heap w (ρ.blk b) cur (cur.toList.take o++aG ρ cs++cur.toList.drop (o+n * sz)).toArray e' (0,0) mM
 refine⟨w.setRow (ρ.blk b) (cur.toList.take o++aG ρ cs++cur.toList.drop (o+n * sz)).toArray,?_,hW.write hb ⟨rfl,rfl,rfl,by simp,fun j _ hj=>?_⟩ (bg (bg (gY p2 _) hno) (jD p2 _)) ?_,trivial⟩
 ·rw[hx]
  have hn:n≠0:=by omega
  obtain⟨m,rfl⟩:∃m,n=m+1:=⟨n - 1,by omega⟩
  simp[Builtin.clear_,run_underlying hu,hzv,hzz,hst,cv,aG]
 ·simp only[World.setRow]
  rw[Array.getElem?_modify,if_neg hj]
 ·cases op with
  |none=>
   have hc:w.heap[ρ.blk b]? =some (.cells (aG ρ vs).toArray e' (0,0)):=hW.rep _ _ hb
   rw[mM] at hc
   have hcv:cur=(aG ρ vs).toArray:=by injection (zx hc)
   show _=_
   rw[hh]
   subst hcv
   simp[bA,List.map_append,List.map_take,List.map_drop]
  |some sz2=>
   obtain⟨n',cur',q1,q2,q3,q4,q5,q6⟩:=hW.rep _ _ hb
   rw[mM] at q1
   have hcc:cur=cur':=by injection (zx q1)
   subst hcc
   refine⟨n',_,hh,q2,q3,?_,?_,?_⟩
   ·simp[ak];omega
   ·simp;omega
   ·have e1:=wB cur.toList (aG ρ cs) o (n' * sz2) (by rw[ak,hcl];omega) (by rw[Array.length_toList,q4];exact Nat.mul_le_mul_right _ q2)
    rw[ak,hcl] at e1
    simp only
    rw[e1,q6]
    simp[bA,List.map_append,List.map_take,List.map_drop]
end Go.Proofs.YtceaodnohnekkaaGreatDoor.Ex
namespace Go.Proofs.YtceaodnohnekkaaGreatDoor.Ex
open Go.RowKit Go.MapKept
theorem DU (w:World)(r:Nat)(o:Obj):Gr w (w.putObj r o) (fun i=>r=i):=⟨rfl,rfl,rfl,by simp,fun i _ hi=>World.putObj_heap_other (Ne.symm hi)⟩
def kS:AV→AV→Option Bool
 | .str l,.str m=>some (D7 l m)
 | .int k (.ofNat a),.int k' (.ofNat b)=>if k=k' then some (Nat.beq a b) else none
 |_,_=>none
def keyOf:Kd→AV→Bool
 | .string,.str _=>true
 | .int k,.int k' (.ofNat _)=>decide (k=k')
 |_,_=>false
def qY (k:AV):List (AV×AV×Nat)→Nat→Option (Option (Nat×AV))
 |[],_=>some none
 |x::l,i=>match kS k x.1 with
  |some true=>some (some (i,x.2.1))
  |some false=>qY k l (i+1)
  |none=>none
theorem Jh {a b:AV}(h:kS a b=some true)(ρ:Env):cv ρ a=cv ρ b:=by
 unfold kS at h
 split at h
 ·rename_i l m
  have:D7 l m=true:=zx h
  rw[oL] at this
  simp only[cv,aa,this]
 ·split at h
  ·rename_i hk
   subst hk
   have:=(beq_iff _ _).1 (zx h)
   subst this
   rfl
  ·cases h
 ·cases h
theorem acZ (l m:List Nat):(aa l == aa m)=D7 l m:=by
 rw[Bool.eq_iff_iff,oL,bytes_beq]
 constructor
 ·intro h
  have:=congrArg (fun b:ByteArray=>b.data.toList) h
  simpa [aa] using this
 ·intro h
  simp only[aa,h]
theorem BC {d:TypeDesc}{k:Kd}{P:Program}(hd:BD P d k=true){a b:AV}(ha:keyOf k a=true){r:Bool}(h:kS a b=some r)(ρ:Env):Instr.sameNow d (cv ρ a) (cv ρ b)=some r:=by
 unfold kS at h
 split at h
 ·rename_i l m
  cases k <;> simp only[keyOf,Bool.false_eq_true] at ha
  cases d <;> simp only[BD,Bool.false_eq_true] at hd
  obtain rfl:=zx h
  simp only[cv,Instr.sameNow,acZ]
 ·rename_i k1 a' k2 b'
  cases k <;> simp only[keyOf,Bool.false_eq_true] at ha
  cases d <;> simp only[BD,Bool.false_eq_true] at hd
  split at h
  ·rename_i hk
   subst hk
   obtain rfl:=zx h
   simp only[cv,Instr.sameNow,if_true]
   congr 1
   rw[Bool.eq_iff_iff,beq_iff]
   simp only[beq_iff_eq]
   exact⟨fun e=>by exact Int.ofNat.inj e,fun e=>by rw[e]⟩
  ·cases h
 ·cases h
theorem kV {d:TypeDesc}{k:Kd}{P:Program}(hd:BD P d k=true){a:AV}(ha:keyOf k a=true)(ρ:Env):∀(l:List (AV×AV×Nat)) (i:Nat) {r:Option (Nat×AV)},qY a l i=some r→Instr.findNow d (cv ρ a) (l.map (aH ρ)) i=some (r.map fun x=>(x.1,cv ρ x.2))
 |[],i,r,h=>by
  simp only[qY,Option.some.injEq] at h
  subst h
  rfl
 |x::l,i,r,h=>by
  simp only[qY] at h
  rw[List.map_cons]
  unfold Instr.findNow
  split at h
  ·rename_i he
   rw[show Instr.sameNow d (cv ρ a) (aH ρ x).key=some true from BC hd ha he ρ]
   obtain rfl:=zx h
   rfl
  ·rename_i he
   rw[show Instr.sameNow d (cv ρ a) (aH ρ x).key=some false from BC hd ha he ρ]
   exact kV hd ha ρ l (i+1) h
  ·cases h
theorem xZ {a:AV}:∀(l:List (AV×AV×Nat)) (i:Nat) {j:Nat} {v:AV},qY a l i=some (some (j,v))→∃x,i≤j∧l[j - i]? =some x∧kS a x.1=some true∧x.2.1=v
 |[],i,j,v,h=>by simp[qY] at h
 |x::l,i,j,v,h=>by
  simp only[qY] at h
  split at h
  ·rename_i he
   obtain⟨rfl,rfl⟩:=zw (zx (zx h))
   exact⟨x,zu _,by simp,he,rfl⟩
  ·obtain⟨y,h1,h2,h3,h4⟩:=xZ l (i+1) h
   exact⟨y,by omega,by rw[show j - i=(j - (i+1))+1 by omega,List.getElem?_cons_succ];exact h2,h3,h4⟩
  ·cases h
theorem nC {d:TypeDesc}{k:Kd}{P:Program}(hd:BD P d k=true){a:AV}(ha:keyOf k a=true)(ρ:Env):IsKey d (cv ρ a):=by
 cases k <;> cases a <;> simp only[keyOf,Bool.false_eq_true] at ha
 ·cases d <;> simp only[BD,Bool.false_eq_true] at hd
  trivial
 ·rename_i k1 k2 n
  cases n <;> simp only[Bool.false_eq_true] at ha
  cases d <;> simp only[BD,Bool.false_eq_true] at hd
  have h1:=eq_of_beq hd
  have h2:=of_decide_eq_true ha
  exact h2.symm.trans h1.symm
def oD (T:bG)(W:AW)(s:Nat)(m k v:AV):Option AW:=
 match T.get s,m with
 |some i,.map b=>match i.kd,au b W.bl with
  | .map kt _,some (.map es clock)=>match T.get kt with
    |some ik=>cond (keyOf ik.kd k) (match qY k es 0 with
     |some (some (j,_))=>match es[j]? with
      |some x=>some ⟨W.nx,gF b (.map (es.set j (x.1,v,x.2.2)) clock) W.bl,addN b W.az,W.gl⟩
      |none=>none
     |some none=>some ⟨W.nx,gF b (.map (es++[(k,v,clock)]) (clock+1)) W.bl,addN b W.az,W.gl⟩
     |none=>none) none
    |none=>none
  |_,_=>none
 |_,_=>none
theorem CQ {k:Kd}{a:AV}(ha:keyOf k a=true)(ρ:Env):Instr.sameBits 10000 (cv ρ a) (cv ρ a)=true:=by
 cases k <;> cases a <;> simp only[keyOf,Bool.false_eq_true] at ha
 ·simp only[cv,Instr.sameBits]
  rw[bytes_beq]
 ·simp[cv,Instr.sameBits]
theorem UQ {α:Type}{l:List α}{j:Nat}{x:α}(h:l[j]? =some x)(f:α→α):l.toArray.modify j f=(l.set j (f x)).toArray:=by
 apply Array.ext'
 rw[Array.toList_modify]
 apply List.ext_getElem?
 intro i
 rw[List.getElem?_modify,List.getElem?_set]
 by_cases hij:j=i
 ·subst hij
  have hlt:=(List.getElem?_eq_some_iff.1 h).1
  have he:=(List.getElem?_eq_some_iff.1 h).2
  simp[hlt,he]
 ·simp[hij]
theorem uA {P:Program}{T:bG}(hT:aW P T){w0:World}{ρ:Env}{W W':AW}{w:World}(hW:aO w0 ρ W w){s:Nat}{m k v:AV}(h:oD T W s m k v=some W')(hk:k.ok W.nx)(hv:v.ok W.nx):
 ∃w',(Instr.mapUpdate s (cv ρ m) (cv ρ k) (cv ρ v)).run P w= .ok () w'∧Post w0 ρ W w ρ W' w':=by
 unfold oD at h
 split at h
 case h_2=>cases h
 case h_1 i b hi=>
 split at h
 case h_2=>cases h
 case h_1 kt et es clock hkd hb=>
 split at h
 case h_2=>cases h
 case h_1 ik hik=>
 cases hko:keyOf ik.kd k with
 |false=>rw[hko] at h;cases h
 |true=>
 rw[hko] at h
 simp only[cond_true] at h
 have hu:=(hT s i hi).map hkd
 obtain⟨d,hud,_,hdk⟩:=(hT kt ik hik).under
 have hheap:w.heap[ρ.blk b]? =some (.map (es.map (aH ρ)).toArray clock):=hW.rep b _ hb
 obtain⟨p1,p2,p3,p4⟩:=hW.ok b _ hb
 have hck:∀e,(Instr.checkKey e 10000 kt (cv ρ k)).run P w= .ok () w:=fun e=>run_checkKey hud (nC hdk hko ρ) e 9999
 split at h
 ·rename_i j u hf
  obtain⟨x,_,hx,hke,hxv⟩:=xZ es 0 hf
  rw[Nat.sub_zero] at hx
  rw[hx] at h
  obtain rfl:=zx h
  have xJ:=run_findKey (w:=w) hud (kV hdk hko ρ es 0 hf)
  have hx':(es.map (aH ρ))[j]? =some (aH ρ x):=by rw[List.getElem?_map,hx];rfl
  have hkk:(aH ρ x).key=cv ρ k:=(Jh hke ρ).symm
  have hgd:((((es.map (aH ρ)).toArray[j]?).map (·.key)).getD (cv ρ k))=cv ρ k:=by
   rw[List.getElem?_toArray,hx',Option.map_some,Option.getD_some,hkk]
  have hmod:=UQ hx' (fun e=>{ e with key:=cv ρ k,val:=cv ρ v})
  have hent:({ aH ρ x with key:=cv ρ k,val:=cv ρ v}:MapEntry)=aH ρ (x.1,v,x.2.2):=by
   rw[← hkk];rfl
  rw[hent] at hmod
  have hset:((es.map (aH ρ)).set j (aH ρ (x.1,v,x.2.2))).toArray=((es.set j (x.1,v,x.2.2)).map (aH ρ)).toArray:=by rw[List.map_set]
  refine⟨w.putObj (ρ.blk b) (.map ((es.set j (x.1,v,x.2.2)).map (aH ρ)).toArray clock),?_,hW.write hb (DU w _ _) (fun y hy=>?_) (World.putObj_heap_same p4)⟩
  ·simp only[Instr.mapUpdate,cv,Sem.run_bind,run_underlying hu,Result.andThen_ok,Go.MapKept.run_getObj_map hheap,hck,xJ,Option.map_some,hgd,Instr.keyThatStays,CQ hko ρ,if_true,Sem.run_pure,hmod,hset]
   rw[Go.MapKept.run_setObj_map _ hheap]
   rfl
  ·rcases List.mem_or_eq_of_mem_set hy with hy | rfl
   ·exact p2 y hy
   ·exact⟨(p2 x (List.mem_of_getElem? hx)).1,hv⟩
 ·rename_i hf
  obtain rfl:=zx h
  have xJ:=run_findKey (w:=w) hud (kV hdk hko ρ es 0 hf)
  have hpush:(es.map (aH ρ)).toArray.push { key:=cv ρ k,val:=cv ρ v,born:=clock}=((es++[(k,v,clock)]).map (aH ρ)).toArray:=by
   apply Array.ext'
   simp[aH]
  refine⟨w.putObj (ρ.blk b) (.map ((es++[(k,v,clock)]).map (aH ρ)).toArray (clock+1)),?_,hW.write hb (DU w _ _) (fun y hy=>?_) (World.putObj_heap_same p4)⟩
  ·simp only[Instr.mapUpdate,cv,Sem.run_bind,run_underlying hu,Result.andThen_ok,Go.MapKept.run_getObj_map hheap,hck,xJ,Option.map_none,hpush]
   rw[Go.MapKept.run_setObj_map _ hheap]
   rfl
  ·rcases List.mem_append.1 hy with hy | hy
   ·exact p2 y hy
   ·obtain rfl:y=(k,v,clock):=by simpa using hy
    exact⟨hk,hv⟩
 ·cases h
def abw (T:bG)(W:AW)(s:Nat)(m k:AV)(ok:Bool):Option AV:=
 match T.get s with
 |some i=>match i.kd with
  | .map kt et=>match T.get kt,T.get et,(match m with | .map b=>(match au b W.bl with | some (.map es _)=>some es | _=>none) | .raw (.map none)=>some [] | _=>none) with
    |some ik,some ie,some es=>cond (keyOf ik.kd k) (match qY k es 0 with
     |some (some (_,v))=>some (cond ok (.tuple [v,.bool true]) v)
     |some none=>(Oa ie).map fun z=>cond ok (.tuple [z,.bool false]) z
     |none=>none) none
    |_,_,_=>none
  |_=>none
 |none=>none
theorem UY {P:Program}{T:bG}(hT:aW P T){w0:World}{ρ:Env}{W:AW}{w:World}(hW:aO w0 ρ W w){s:Nat}{m k v:AV}{ok:Bool}(h:abw T W s m k ok=some v):
 (Instr.lookup s (cv ρ m) (cv ρ k) ok).run P w= .ok (cv ρ v) w∧v.ok W.nx:=by
 unfold abw at h
 split at h
 case h_2=>cases h
 case h_1 i hi=>
 split at h
 case h_2=>cases h
 case h_1 kt et hkd=>
 split at h
 case h_2=>cases h
 case h_1 ik ie es hik hie hes=>
 cases hko:keyOf ik.kd k with
 |false=>rw[hko] at h;cases h
 |true=>
 rw[hko] at h
 simp only[cond_true] at h
 have hu:=(hT s i hi).map hkd
 obtain⟨d,hud,_,hdk⟩:=(hT kt ik hik).under
 have hck:∀e,(Instr.checkKey e 10000 kt (cv ρ k)).run P w= .ok () w:=fun e=>run_checkKey hud (nC hdk hko ρ) e 9999
 have hcell:(∃b clock,m= .map b∧au b W.bl=some (.map es clock))∨(m= .raw (.map none)∧es=[]):=by
  split at hes
  ·rename_i b
   split at hes
   ·rename_i es' clock hb
    obtain rfl:=zx hes
    exact .inl ⟨b,clock,rfl,hb⟩
   ·cases hes
  ·obtain rfl:=zx hes
   exact .inr ⟨rfl,rfl⟩
  ·cases hes
 have axA:∀x∈es,x.1.ok W.nx∧x.2.1.ok W.nx:=by
  rcases hcell with⟨b,clock,_,hb⟩ | ⟨_,rfl⟩
  ·exact (hW.ok b _ hb).2.1
  ·intro x hx;cases hx
 have abn:∀(j:Nat) (u:Value),(Instr.findKey kt (cv ρ k) (es.map (aH ρ))).run P w= .ok (some (j,u)) w→(Instr.lookup s (cv ρ m) (cv ρ k) ok).run P w= .ok (if ok then .tuple #[u,.bool true] else u) w:=fun j u hr=>by
  rcases hcell with⟨b,clock,rfl,hb⟩ | ⟨rfl,rfl⟩
  ·have hheap:w.heap[ρ.blk b]? =some (.map (es.map (aH ρ)).toArray clock):=hW.rep b _ hb
   simp only[Instr.lookup,cv,Sem.run_bind,run_underlying hu,Result.andThen_ok,Go.MapKept.run_getObj_map hheap,Sem.run_pure,hck,hr]
  ·have hr':(Instr.findKey kt (cv ρ k) (#[]:Array MapEntry).toList).run P w= .ok (some (j,u)) w:=hr
   simp only[Instr.lookup,cv,Sem.run_bind,run_underlying hu,Result.andThen_ok,Sem.run_pure,hck,hr']
 have abo:∀(z:Value),(Instr.findKey kt (cv ρ k) (es.map (aH ρ))).run P w= .ok none w→(zeroValue et).run P w= .ok z w→(Instr.lookup s (cv ρ m) (cv ρ k) ok).run P w= .ok (if ok then .tuple #[z,.bool false] else z) w:=fun z hr hz=>by
  rcases hcell with⟨b,clock,rfl,hb⟩ | ⟨rfl,rfl⟩
  ·have hheap:w.heap[ρ.blk b]? =some (.map (es.map (aH ρ)).toArray clock):=hW.rep b _ hb
   simp only[Instr.lookup,cv,Sem.run_bind,run_underlying hu,Result.andThen_ok,Go.MapKept.run_getObj_map hheap,Sem.run_pure,hck,hr,hz]
  ·have hr':(Instr.findKey kt (cv ρ k) (#[]:Array MapEntry).toList).run P w= .ok none w:=hr
   simp only[Instr.lookup,cv,Sem.run_bind,run_underlying hu,Result.andThen_ok,Sem.run_pure,hck,hr',hz]
 split at h
 ·rename_i j u hf
  obtain⟨x,_,hx,_,hxv⟩:=xZ es 0 hf
  obtain rfl:=zx h
  have xJ:=run_findKey (w:=w) hud (kV hdk hko ρ es 0 hf)
  rw[abn _ _ xJ]
  have huo:u.ok W.nx:=hxv ▸ (axA x (List.mem_of_getElem? hx)).2
  cases ok
  ·exact⟨rfl,huo⟩
  ·exact⟨rfl,huo,trivial,trivial⟩
 ·rename_i hf
  obtain⟨z,hz,rfl⟩:=Option.map_eq_some_iff.1 h
  have xJ:=run_findKey (w:=w) hud (kV hdk hko ρ es 0 hf)
  obtain⟨hz1,hz2⟩:=Ac (hT et ie hie) hz ρ W.nx w
  rw[abo _ xJ hz1]
  cases ok
  ·exact⟨rfl,hz2⟩
  ·exact⟨rfl,hz2,trivial,trivial⟩
 ·cases h
def Jv (k:AV):List (AV×AV)→Option (Option AV)
 |[]=>some none
 |x::l=>match kS k x.1 with
  |some true=>some (some x.2)
  |some false=>Jv k l
  |none=>none
theorem xB {a b:AV}(h:kS a b=some false)(ρ:Env):cv ρ a≠cv ρ b:=by
 unfold kS at h
 split at h
 ·rename_i l m
  have h:D7 l m=false:=zx h
  intro e
  simp only[cv,Value.string.injEq] at e
  have:D7 l m=true:=(oL _ _).2 (by
   have:=congrArg (fun b:ByteArray=>b.data.toList) e
   simpa [aa] using this)
  rw[this] at h;cases h
 ·split at h
  ·rename_i hk
   subst hk
   have h:=zx h
   intro e
   simp only[cv,Value.int.injEq,true_and] at e
   have:=(beq_iff _ _).2 (Int.ofNat.inj e)
   rw[this] at h;cases h
  ·cases h
 ·cases h
theorem p8 {k:AV}(ρ:Env):∀(l:List (AV×AV)) {r:Option AV},Jv k l=some r→(match r with | some v=>∃x∈l,cv ρ x.1=cv ρ k∧x.2=v | none=>∀x∈l,cv ρ x.1≠cv ρ k)
 |[],r,h=>by
  simp only[Jv,Option.some.injEq] at h
  subst h
  intro x hx;cases hx
 |x::l,r,h=>by
  simp only[Jv] at h
  split at h
  ·rename_i he
   obtain rfl:=zx h
   exact⟨x,zn,(Jh he ρ).symm,rfl⟩
  ·rename_i he
   have ih:=p8 ρ l h
   cases r with
   |some v=>
    obtain⟨y,hy,h1⟩:=ih
    exact⟨y,zm _ hy,h1⟩
   |none=>
    intro y hy
    rcases List.mem_cons.1 hy with rfl | hy
    ·exact fun e=>xB he ρ e.symm
    ·exact ih y hy
  ·cases h
theorem UH {α β:Type}{l:List (α×β)}(hn:(l.map (·.1)).Nodup){k:α}{v v':β}(h:(k,v)∈l)(h':(k,v')∈l):v=v':=by
 induction l with
 |nil=>cases h
 |cons x l ih=>
  simp only[List.map_cons,List.nodup_cons] at hn
  rcases List.mem_cons.1 h with h1 | h1 <;> rcases List.mem_cons.1 h' with h2 | h2
  ·exact (zw (h1.trans h2.symm)).2
  ·exact (hn.1 (List.mem_map.2 ⟨(k,v'),h2,by rw[← h1]⟩)).elim
  ·exact (hn.1 (List.mem_map.2 ⟨(k,v),h1,by rw[← h2]⟩)).elim
  ·exact ih hn.2 h1 h2
def Na (T:bG)(W:AW)(s:Nat)(m k:AV)(ok:Bool):Option AV:=
 match T.get s,m with
 |some i,.map b=>match i.kd,au b W.bl with
  | .map kt et,some (.ky es)=>match T.get kt,T.get et with
    |some ik,some ie=>cond (keyOf ik.kd k && es.all fun x=>keyOf ik.kd x.1) (match Jv k es with
     |some (some v)=>some (cond ok (.tuple [v,.bool true]) v)
     |some none=>(Oa ie).map fun z=>cond ok (.tuple [z,.bool false]) z
     |none=>none) none
    |_,_=>none
  |_,_=>none
 |_,_=>none
theorem M9 {P:Program}{T:bG}(hT:aW P T){w0:World}{ρ:Env}{W:AW}{w:World}(hW:aO w0 ρ W w){s:Nat}{m k v:AV}{ok:Bool}(h:Na T W s m k ok=some v):
 (Instr.lookup s (cv ρ m) (cv ρ k) ok).run P w= .ok (cv ρ v) w∧v.ok W.nx:=by
 unfold Na at h
 split at h
 case h_2=>cases h
 case h_1 i b hi=>
 split at h
 case h_2=>cases h
 case h_1 kt et es hkd hb=>
 split at h
 case h_2=>cases h
 case h_1 ik ie hik hie=>
 cases hko:(keyOf ik.kd k && es.all fun x=>keyOf ik.kd x.1) with
 |false=>rw[hko] at h;cases h
 |true=>
 rw[hko] at h
 simp only[cond_true] at h
 simp only[Bool.and_eq_true] at hko
 obtain⟨hko,hall⟩:=hko
 have hall:=List.all_eq_true.1 hall
 have hu:=(hT s i hi).map hkd
 obtain⟨d,hud,_,hdk⟩:=(hT kt ik hik).under
 have hck:∀e,(Instr.checkKey e 10000 kt (cv ρ k)).run P w= .ok () w:=fun e=>run_checkKey hud (nC hdk hko ρ) e 9999
 obtain⟨arr,clock,hheap,hperm,Nl⟩:=hW.rep b _ hb
 have hkeys:∀x∈arr.toList,IsKey d x.key:=fun x hx=>by
  have:(x.key,x.val)∈arr.toList.map fun e=>(e.key,e.val):=List.mem_map.2 ⟨x,hx,rfl⟩
  obtain⟨y,hy,e⟩:=List.mem_map.1 (hperm.mem_iff.1 this)
  have:=(zw e).1
  rw[← this]
  exact nC hdk (hall y hy) ρ
 have hn2:((arr.toList.map fun e=>(e.key,e.val)).map (·.1)).Nodup:=by
  refine (hperm.map (·.1)).nodup_iff.2 ?_
  rw[List.map_map]
  exact Nl
 have abn:∀(j:Nat) (u:Value),Instr.findNow d (cv ρ k) arr.toList 0=some (some (j,u))→(Instr.lookup s (cv ρ (.map b)) (cv ρ k) ok).run P w= .ok (if ok then .tuple #[u,.bool true] else u) w:=fun j u hr=>by
  have hr:=run_findKey (P:=P) (w:=w) hud hr
  simp only[Instr.lookup,cv,Sem.run_bind,run_underlying hu,Result.andThen_ok,Go.MapKept.run_getObj_map hheap,Sem.run_pure,hck,hr]
 have abo:∀(z:Value),Instr.findNow d (cv ρ k) arr.toList 0=some none→(zeroValue et).run P w= .ok z w→(Instr.lookup s (cv ρ (.map b)) (cv ρ k) ok).run P w= .ok (if ok then .tuple #[z,.bool false] else z) w:=fun z hr hz=>by
  have hr:=run_findKey (P:=P) (w:=w) hud hr
  simp only[Instr.lookup,cv,Sem.run_bind,run_underlying hu,Result.andThen_ok,Go.MapKept.run_getObj_map hheap,Sem.run_pure,hck,hr,hz]
 have hspec:=findNow_spec (nC hdk hko ρ) arr.toList 0 hkeys
 split at h
 ·rename_i u hf
  obtain⟨x,hx,hxk,rfl⟩:=p8 ρ es hf
  obtain rfl:=zx h
  have hin:(cv ρ k,cv ρ x.2)∈arr.toList.map fun e=>(e.key,e.val):=hperm.mem_iff.2 (List.mem_map.2 ⟨x,hx,by rw[hxk]⟩)
  have huo:x.2.ok W.nx:=((hW.ok b _ hb).2.1 x hx).2
  rcases hspec with⟨_,hno⟩ | ⟨j,e,h1,h2,h3⟩
  ·obtain⟨e,he,hee⟩:=List.mem_map.1 hin
   exact (hno e he (zw hee).1).elim
  ·have he:(cv ρ k,e.val)∈arr.toList.map fun e=>(e.key,e.val):=List.mem_map.2 ⟨e,List.mem_of_getElem? h2,by rw[h3]⟩
   have hv:=UH hn2 he hin
   rw[hv] at h1
   rw[abn _ _ h1]
   cases ok
   ·exact⟨rfl,huo⟩
   ·exact⟨rfl,huo,trivial,trivial⟩
 ·rename_i hf
  have hno:=p8 ρ es hf
  obtain⟨z,hz,rfl⟩:=Option.map_eq_some_iff.1 h
  obtain⟨hz1,hz2⟩:=Ac (hT et ie hie) hz ρ W.nx w
  rcases hspec with⟨h1,_⟩ | ⟨j,e,h1,h2,h3⟩
  ·rw[abo _ h1 hz1]
   cases ok
   ·exact⟨rfl,hz2⟩
   ·exact⟨rfl,hz2,trivial,trivial⟩
  ·have he:(e.key,e.val)∈arr.toList.map fun e=>(e.key,e.val):=List.mem_map.2 ⟨e,List.mem_of_getElem? h2,rfl⟩
   obtain⟨y,hy,hye⟩:=List.mem_map.1 (hperm.mem_iff.1 he)
   exact (hno y hy ((zw hye).1.trans h3)).elim
 ·cases h
end Go.Proofs.YtceaodnohnekkaaGreatDoor.Ex
namespace Go.Proofs.YtceaodnohnekkaaGreatDoor.Ex
open Go.RowKit
def qA (T:bG)(W:AW)(s:Nat):AV→Option (AV×AW)
 | .str l=>match T.get s with
   |some i=>match i.kd with
    | .string=>some (.ptr W.nx 0,W.push (.mX l 0))
    |_=>none
   |none=>none
 | .map b=>match T.get s,au b W.bl with
   |some i,some (.map _ clock)=>match i.kd with
    | .map _ _=>some (.ptr W.nx 0,W.push (.mo b clock [] clock))
    |_=>none
   |_,_=>none
 |_=>none
theorem De {P:Program}{T:bG}(hT:aW P T){w0:World}{ρ:Env}{W W':AW}{w:World}(hW:aO w0 ρ W w){s:Nat}{x v:AV}(h:qA T W s x=some (v,W')):
 ∃ρ' w',(Instr.range s (cv ρ x)).run P w= .ok (cv ρ' v) w'∧Post w0 ρ W w ρ' W' w'∧v.ok W'.nx:=by
 unfold qA at h
 split at h
 ·rename_i l
  split at h
  case h_2=>cases h
  case h_1 i hi=>
  split at h
  case h_2=>cases h
  case h_1 hk=>
  obtain⟨rfl,rfl⟩:=zw (zx h)
  refine⟨_,_,?_,hW.new (c:=0) (jJ w (.stringIter (aa l) 0)) (zu _) (by simp) (k:=.mX l 0) trivial (by
   show _=_
   rw[Env.aP];exact World.alloc_heap_new _ _),Nat.lt_succ_self _⟩
  simp only[cv,Env.aP]
  exact run_range_string w s (aa l) ((hT s i hi).string hk)
 ·rename_i b
  split at h
  case h_2=>cases h
  case h_1 i es clock hi hb=>
  split at h
  case h_2=>cases h
  case h_1 kt et hk=>
  obtain⟨rfl,rfl⟩:=zw (zx h)
  obtain⟨p1,_⟩:=hW.ok b _ hb
  refine⟨_,_,?_,hW.new (c:=0) (jJ w (.mapIter (some (ρ.blk b)) clock #[] clock)) (zu _) (by simp) (k:=.mo b clock [] clock) p1 (by
   show _=_
   rw[Env.aP,(Env.fM ρ W.nx w.heap.size 0).blk b p1];exact World.alloc_heap_new _ _),Nat.lt_succ_self _⟩
  simp only[cv,Env.aP]
  exact run_range_map w s kt et (ρ.blk b) _ clock ((hT s i hi).map hk) (hW.rep b _ hb)
 ·cases h
def vH (W:AW)(str:Bool):AV→Option (AV×AW)
 | .ptr b 0=>match str,au b W.bl with
   |true,some (.mX l pos)=>match l[pos]? with
    |some c=>cond (Nat.blt c 128) (some (.tuple [.bool true,.int .i64 (.ofNat pos),.int .i32 (.ofNat c)],⟨W.nx,gF b (.mX l (pos+1)) W.bl,addN b W.az,W.gl⟩)) none
    |none=>some (.tuple [.bool false],W)
   |false,some (.mo m since seen last)=>match au m W.bl with
    |some (.map [] _)=>if Nat.ble since last then some (.tuple [.bool false],W) else none
    |some (.map [x] clock)=>if Nat.blt x.2.2 since && Nat.ble since last then
      cond (iD x.2.2 seen) (some (.tuple [.bool false],W)) (some (.tuple [.bool true,x.1,x.2.1],⟨W.nx,gF b (.mo m since (seen++[x.2.2]) clock) W.bl,addN b W.az,W.gl⟩)) else none
    |_=>none
   |_,_=>none
 |_=>none
theorem IX {P:Program}{w0:World}{ρ:Env}{W W':AW}{w:World}(hW:aO w0 ρ W w){str:Bool}{ty:Nat}{x v:AV}(h:vH W str x=some (v,W')):
 ∃w',(Instr.next (cv ρ x) str ty).run P w= .ok (cv ρ v) w'∧Post w0 ρ W w ρ W' w'∧v.ok W'.nx:=by
 unfold vH at h
 split at h
 case h_2=>cases h
 case h_1 b=>
 split at h
 ·rename_i l pos hb
  have hk:w.heap[ρ.blk b]? =some (.stringIter (aa l) pos):=hW.rep b _ hb
  split at h
  ·rename_i c hc
   have hlt:=(List.getElem?_eq_some_iff.1 hc).1
   have hcv:=(List.getElem?_eq_some_iff.1 hc).2
   cases hc8:Nat.blt c 128 with
   |false=>rw[hc8] at h;cases h
   |true=>
   rw[hc8] at h
   obtain⟨rfl,rfl⟩:=zw (zx h)
   have hc8:=aT hc8
   have hp:pos < (aa l).size:=by rw[aA];exact hlt
   have hby:((aa l)[pos]'hp).toNat=c:=by
    simp[aa,ByteArray.getElem_eq_getElem_data,hcv];omega
   have hrun:=Go.Lib.run_next_ascii_at (P:=P) w (ρ.blk b) (aa l) pos ty hk hp (by rw[hby];exact hc8)
   rw[hby] at hrun
   obtain⟨p1,p2,p3,p4⟩:=hW.ok b _ hb
   refine⟨_,hrun,hW.write (k:=.mX l (pos+1)) hb ⟨rfl,rfl,rfl,by rw[Go.Lib.iterAt_size];exact zu _,fun i _ hi=>Go.Lib.iterAt_other w _ i _ _ (Ne.symm hi)⟩ trivial (Go.Lib.iterAt_heap w _ _ _ _ hk),trivial,trivial,trivial,trivial⟩
  ·rename_i hc
   obtain⟨rfl,rfl⟩:=zw (zx h)
   have hp:¬pos < (aa l).size:=by rw[aA];have:=List.getElem?_eq_none_iff.1 hc;omega
   exact⟨w,Go.Lib.run_next_end_at (P:=P) w (ρ.blk b) (aa l) pos ty hk hp,Post.refl hW,trivial,trivial⟩
 ·rename_i m since seen last hb
  have hk:w.heap[ρ.blk b]? =some (.mapIter (some (ρ.blk m)) since seen.toArray last):=hW.rep b _ hb
  split at h
  ·rename_i clock hm
   split at h
   case isFalse=>cases h
   case isTrue hle=>
   have hle:=Nat.le_of_ble_eq_true hle
   obtain⟨rfl,rfl⟩:=zw (zx h)
   have hmm:w.heap[ρ.blk m]? =some (.map #[] clock):=hW.rep m _ hm
   rcases run_next_at (P:=P) w ty (ρ.blk b) (ρ.blk m) since last seen.toArray #[] clock hk hmm (fun x hx=>by cases hx) hle with⟨_,hr⟩ | ⟨e,he,_⟩
   ·exact⟨w,hr,Post.refl hW,trivial,trivial⟩
   ·simp[leftOf] at he
  ·rename_i x clock hm
   split at h
   case isFalse=>cases h
   case isTrue hc=>
   simp only[Bool.and_eq_true] at hc
   have hlt:=aT hc.1
   have hle:=Nat.le_of_ble_eq_true hc.2
   have hmm:w.heap[ρ.blk m]? =some (.map #[aH ρ x] clock):=hW.rep m _ hm
   have hmo:=(hW.ok m _ hm).2.1 x (by simp)
   have hrun:=run_next_at (P:=P) w ty (ρ.blk b) (ρ.blk m) since last seen.toArray #[aH ρ x] clock hk hmm (fun y hy=>by
    obtain rfl:y=aH ρ x:=by simpa using hy
    exact hlt) hle
   cases hs:iD x.2.2 seen with
   |true=>
    rw[hs] at h
    obtain⟨rfl,rfl⟩:=zw (zx h)
    have hin:=iO hs
    have hleft:leftOf #[aH ρ x] seen.toArray=#[]:=by
     have hb':(aH ρ x).born∈seen:=hin
     simp[leftOf,hb']
    rcases hrun with⟨_,hr⟩ | ⟨e,he,_⟩
    ·exact⟨w,hr,Post.refl hW,trivial,trivial⟩
    ·rw[hleft] at he;simp at he
   |false=>
    rw[hs] at h
    obtain⟨rfl,rfl⟩:=zw (zx h)
    have axD:=oC hs
    have hleft:leftOf #[aH ρ x] seen.toArray=#[aH ρ x]:=by
     have hb':(aH ρ x).born ∉ seen:=axD
     simp[leftOf,hb']
    rcases hrun with⟨h0,_⟩ | ⟨e,he,w1,hw1,hr⟩
    ·rw[hleft] at h0;cases h0
    ·rw[hleft] at he
     obtain rfl:e=aH ρ x:=by simpa using he
     obtain⟨p1,p2,p3,p4⟩:=hW.ok b _ hb
     have ang:w1.heap=w.heap:=by rcases hw1 with rfl | rfl <;> rfl
     refine⟨_,hr,hW.write (k:=.mo m since (seen++[x.2.2]) clock) hb ⟨?_,?_,?_,?_,fun i _ hi=>?_⟩ p2 ?_,trivial,hmo.1,hmo.2,trivial⟩
     ·rcases hw1 with rfl | rfl <;> rfl
     ·rcases hw1 with rfl | rfl <;> rfl
     ·rcases hw1 with rfl | rfl <;> rfl
     ·simp[Go.ChangeMaps.setBlock,ang]
     ·simp only[Go.ChangeMaps.setBlock,ang]
      rw[Array.getElem?_setIfInBounds_ne hi]
     ·show _=_
      simp only[Go.ChangeMaps.setBlock,ang]
      rw[Array.getElem?_setIfInBounds_self_of_lt p4]
      simp[aH]
  ·cases h
 ·cases h
def R5 (b:Nat):List (AV×AV×Nat)→Option (AV×AV)
 |[]=>none
 |x::l=>cond (Nat.beq x.2.2 b) (some (x.1,x.2.1)) (R5 b l)
def Nz (W:AW):AV→Option AV
 | .ptr b 0=>match au b W.bl with
   |some (.mo m _ seen last)=>match au m W.bl,seen.getLast? with
    |some (.map es clock),some s=>cond (Nat.beq clock last) ((R5 s es).map fun x=>.tuple [x.1,x.2]) none
    |_,_=>none
   |_=>none
 |_=>none
theorem xY {ρ:Env}{n s:Nat}:∀{es:List (AV×AV×Nat)} {x:AV×AV},R5 s es=some x→(∀y∈es,y.1.ok n∧y.2.1.ok n)→
 (∃e,(es.map (aH ρ)).find? (fun e=>e.born == s)=some e∧e.key=cv ρ x.1∧e.val=cv ρ x.2)∧x.1.ok n∧x.2.ok n
 |[],x,h,_=>by cases h
 |y::l,x,h,ho=>by
  unfold R5 at h
  cases hb:Nat.beq y.2.2 s with
  |true=>
   rw[hb] at h
   obtain rfl:=zx h
   have hb:=(beq_iff _ _).1 hb
   refine⟨⟨aH ρ y,?_,rfl,rfl⟩,(ho y zn).1,(ho y zn).2⟩
   rw[List.map_cons,List.find?_cons]
   simp[aH,hb]
  |false=>
   rw[hb] at h
   have hne:¬y.2.2=s:=fun e=>by rw[(beq_iff _ _).2 e] at hb;cases hb
   obtain⟨⟨e,h1,h2⟩,h3⟩:=xY (ρ:=ρ) h fun z hz=>ho z (zm _ hz)
   refine⟨⟨e,?_,h2⟩,h3⟩
   rw[List.map_cons,List.find?_cons]
   have:((aH ρ y).born == s)=false:=by simp[aH,hne]
   rw[this]
   exact h1
theorem Ny {P:Program}{w0:World}{ρ:Env}{W:AW}{w:World}(hW:aO w0 ρ W w){x v:AV}(h:Nz W x=some v):
 (Instr.entry (cv ρ x)).run P w= .ok (cv ρ v) w∧v.ok W.nx:=by
 unfold Nz at h
 split at h
 case h_2=>cases h
 case h_1 b=>
 split at h
 case h_2=>cases h
 case h_1 m since seen last hb=>
 split at h
 case h_2=>cases h
 case h_1 es clock s hm hs=>
 cases hcl:Nat.beq clock last with
 |false=>rw[hcl] at h;cases h
 |true=>
 rw[hcl] at h
 obtain rfl:=(beq_iff _ _).1 hcl
 obtain⟨y,hy,rfl⟩:=Option.map_eq_some_iff.1 h
 have hk:w.heap[ρ.blk b]? =some (.mapIter (some (ρ.blk m)) since seen.toArray clock):=hW.rep b _ hb
 have hmm:w.heap[ρ.blk m]? =some (.map (es.map (aH ρ)).toArray clock):=hW.rep m _ hm
 obtain⟨⟨e,h1,h2,h3⟩,h4,h5⟩:=xY (ρ:=ρ) hy (hW.ok m _ hm).2.1
 have hback:seen.toArray.back? =some s:=by simpa using hs
 have hfind:(es.map (aH ρ)).toArray.find? (fun e=>e.born == s)=some e:=by rw[List.find?_toArray];exact h1
 refine⟨?_,h4,h5,trivial⟩
 simp only[cv,Instr.entry,getObj,Sem.run_bind,Sem.run,hk,hmm,Result.andThen,hback,hfind,bne_self_eq_false,Bool.false_eq_true,if_false]
 simp[h2,h3,aG]
def Et:List Nat→Bool
 |[]=>true
 |c::l=>cond (Nat.blt c 256) (Et l) false
theorem BS:∀{l:List Nat},Et l=true→∀c∈l,c < 256
 |[],_,c,h=>by cases h
 |x::l,h,c,hc=>by
  unfold Et at h
  cases hx:Nat.blt x 256 with
  |false=>rw[hx] at h;cases h
  |true=>
   rw[hx] at h
   rcases List.mem_cons.1 hc with rfl | hc
   ·exact aT hx
   ·exact BS h c hc
def Fb (c:Nat):List (Int×Int×Bool)→Option Bool
 |[]=>none
 |(.ofNat a,.ofNat b,r)::l=>cond (Nat.beq a c && Nat.beq b c) (some r) (Fb c l)
 |_::l=>Fb c l
theorem ql {c:Nat}:∀{fs:List (Int×Int×Bool)} {x:Int} {r:Bool},Fb c fs=some r→iZ fs x→decide (x=(c:Int))=r
 |[],_,_,h,_=>by cases h
 |f::l,x,r,h,hk=>by
  have hl:iZ l x:=fun g hg=>hk g (zm _ hg)
  unfold Fb at h
  split at h
  ·rename_i e;cases e
  ·rename_i a b q l' e
   obtain⟨rfl,rfl⟩:=List.cons.inj e
   cases hq:Nat.beq a c && Nat.beq b c with
   |false=>rw[hq] at h;exact ql h hl
   |true=>
    rw[hq] at h
    obtain rfl:=zx h
    simp only[Bool.and_eq_true,beq_iff] at hq
    obtain⟨rfl,rfl⟩:=hq
    have:=hk _ zn
    simp only at this
    rw[← this,Bool.eq_iff_iff]
    simp only[decide_eq_true_eq,Bool.and_eq_true,Int.ofNat_eq_natCast]
    omega
  ·rename_i e
   obtain⟨rfl,rfl⟩:=List.cons.inj e
   exact ql h hl
def VK (T:bG)(s:Nat):AV→AV→Option Bool
 | .sym fs _,.int .i64 (.ofNat c)=>match uY T s with
   |some (.int .i64)=>Fb c fs
   |_=>none
 | .fn _ _ _,.raw .nilFunc=>match uY T s with | some .func=>some false | _=>none
 | .ptr b o,.ptr b' o'=>cond (Nat.beq b b') (match uY T s with
   |some (.ptr e)=>match T.get e with
    |some ie=>cond (Nat.beq ie.size 0) none (some (Nat.beq o o'))
    |none=>none
   |_=>none) none
 |_,_=>none
theorem acO {P:Program}{T:bG}(hT:aW P T){ρ:Env}{w:World}{s:Nat}{x y:AV}{r:Bool}(h:VK T s x y=some r){n:Nat}(hok:x.ok n):(Op.equal s (cv ρ x) (cv ρ y)).run P w= .ok r w:=by
 unfold VK at h
 split at h
 ·rename_i fs z c
  split at h
  ·rename_i hk
   obtain⟨i,hi,hk⟩:=eH hk
   have hu:=(hT s i hi).int hk
   have hz:=ql h hok
   have:∀d,(Op.equalIn (d+1) s (.int .i64 z) (.int .i64 (c:Int))).run P w= .ok r w:=fun d=>by
    have hbe:(z == (c:Int))=r:=by rw[← hz,Bool.eq_iff_iff];simp
    simp[Op.equalIn,run_underlying hu,hbe]
   simp only[cv]
   exact this 9999
  ·cases h
 ·split at h
  ·rename_i hk
   obtain⟨i,hi,hk⟩:=eH hk
   obtain⟨a,b,c,hu⟩:=(hT s i hi).func hk
   obtain rfl:=zx h
   have:∀d f x y,(Op.equalIn (d+1) s (.func f x y) .nilFunc).run P w= .ok false w:=fun d f x y=>by simp[Op.equalIn,run_underlying hu]
   simp only[cv]
   exact this 9999 _ _ _
  ·cases h
 ·rename_i b o b' o'
  cases hb:Nat.beq b b' with
  |false=>rw[hb] at h;cases h
  |true=>
  rw[hb] at h
  obtain rfl:=(beq_iff _ _).1 hb
  simp only[cond_true] at h
  split at h
  ·rename_i e hk
   obtain⟨i,hi,hk⟩:=eH hk
   have hu:=(hT s i hi).ptr hk
   split at h
   ·rename_i ie hie
    cases hz:Nat.beq ie.size 0 with
    |true=>rw[hz] at h;cases h
    |false=>
    rw[hz] at h
    obtain rfl:=zx h
    have hne:ie.size≠0:=fun e=>by rw[e] at hz;cases hz
    have hsz:=(hT e ie hie).sizeOf w
    have:∀d,(Op.equalIn (d+1) s (.pointer (some ⟨ρ.blk b,o,none⟩)) (.pointer (some ⟨ρ.blk b,o',none⟩))).run P w= .ok (Nat.beq o o') w:=fun d=>by
     have hbe:((⟨ρ.blk b,o,none⟩:Addr) == ⟨ρ.blk b,o',none⟩)=Nat.beq o o':=by
      rw[Bool.eq_iff_iff,beq_iff,beq_iff_eq]
      simp
     simp[Op.equalIn,run_underlying hu,hsz,hne,sameAddr,hbe]
    simp only[cv]
    exact this 9999
   ·cases h
  ·cases h
 ·cases h
theorem Sd {P:Program}{T:bG}(hT:aW P T){ρ:Env}{n N:Nat}{t:TT}{a:Act}{w:World}{op:BinOp}{s ty:Nat}{x y:Operand}{dst:Option Tmp}{type:TypeId}{pos:String}{after:Array Edge}{guard:Option (Nat×Bool)}{b r:Bool}(ht:aR ρ n N t a)(h:VK T s (ev t x) (ev t y)=some b)(ho:(op= .eql∧r=b)∨(op= .neq∧r= !b)):
 (execOp a.eval (⟨dst,.binOp op s x y ty,type,pos,after,guard⟩:Oper)).run P w= .ok (.value (cv ρ (.bool r))) w:=by
 have hr:=acO hT (ρ:=ρ) (w:=w) h (ht.fu x)
 have hx:=ht.eval x
 have hy:=ht.eval y
 unfold VK at h
 split at h
 ·rename_i fs z c e1 e2
  rw[e1] at hx;rw[e2] at hy
  have hok:=ht.fu x
  rw[e1] at hok
  split at h
  ·have hz:=ql h hok
   have hbe:(z == (c:Int))=b:=by rw[← hz,Bool.eq_iff_iff];simp
   have hbn:(z != (c:Int))= !b:=by rw[bne,hbe]
   rcases ho with⟨rfl,rfl⟩ | ⟨rfl,rfl⟩ <;> simp only[execOp,hx,hy,cv,binOp,eqGuard] <;> simp[Op.intCmp,hbe,hbn]
  ·cases h
 ·rename_i e1 e2
  rw[e1] at hx hr;rw[e2] at hy hr
  rcases ho with⟨rfl,rfl⟩ | ⟨rfl,rfl⟩ <;> simp only[execOp,hx,hy,cv,binOp,eqGuard] <;> simp only[cv] at hr <;> simp[hr]
 ·rename_i e1 e2
  rw[e1] at hx hr;rw[e2] at hy hr
  rcases ho with⟨rfl,rfl⟩ | ⟨rfl,rfl⟩ <;> simp only[execOp,hx,hy,cv,binOp,eqGuard] <;> simp only[cv] at hr <;> simp[hr]
 ·cases h
def acM (P:Program)(T:bG)(W:AW)(s d:Nat)(x:AV):Option AV:=
 match T.get s,T.get d with
 |some i,some j=>match i.kd,j.kd with
  | .slice e 1 _,.string=>match T.get e with
    |some ie=>match ie.kd with
     | .int .u8=>match kI W.bl 1 x with
       |some (_,news)=>(nO news).map .str
       |none=>none
     |_=>none
    |none=>none
  | .ptr e,.Cr=>match x with
    | .ptr b o=>match au b W.bl,T.get e with
      |some (.cells vs _ none),some ie=>cond (Nat.beq ie.size 0) none (cond (Nat.blt o vs.length) (some (.ptr b o)) none)
      |_,_=>none
    |_=>none
  | .Cr,.ptr u=>match x with
    | .ptr b o=>match au b W.bl,T.get u with
      |some (.cells vs e none),some _=>cond (liesAt P P.depth e (vs.length / P.cellsOf e) o u 1) (some (.ptr b o)) none
      |_,_=>none
    |_=>none
  |_,_=>none
 |_,_=>none
theorem Uu (l:List Nat):(l.map fun (c:Nat)=>(c:Int)).foldl (fun r n=>r.push (UInt8.ofNat n.toNat)) ByteArray.empty=aa l:=by
 have key:∀(l:List Nat) (b:ByteArray),((l.map fun (c:Nat)=>(c:Int)).foldl (fun r n=>r.push (UInt8.ofNat n.toNat)) b).data.toList=b.data.toList++l.map UInt8.ofNat:=by
  intro l
  induction l with
  |nil=>intro b;simp
  |cons c l ih=>
   intro b
   rw[List.map_cons,List.foldl_cons,ih]
   simp[ByteArray.push]
 apply ByteArray.ext
 apply Array.ext'
 rw[key]
 simp[aa]
theorem VH {P:Program}{T:bG}(hT:aW P T){w0:World}{ρ:Env}{W:AW}{w:World}(hW:aO w0 ρ W w){s d:Nat}{x v:AV}(h:acM P T W s d x=some v)(hx:x.ok W.nx):
 (convert s d (cv ρ x)).run P w= .ok (cv ρ v) w∧v.ok W.nx:=by
 unfold acM at h
 split at h
 case h_2=>cases h
 case h_1 i j hi hj=>
 split at h
 ·rename_i e rT hk hkj
  obtain⟨hu,_⟩:=(hT s i hi).slice hk
  have hud:=(hT d j hj).string hkj
  split at h
  case h_2=>cases h
  case h_1 ie hie=>
  split at h
  case h_2=>cases h
  case h_1 hke=>
  have hue:=(hT e ie hie).int hke
  split at h
  case h_2=>cases h
  case h_1 m news hr=>
  obtain⟨l,hl,rfl⟩:=Option.map_eq_some_iff.1 h
  obtain⟨A,c,h1,h2,h3,h4⟩:=kH hW hr
  have hb:=nN ρ _ hl
  refine⟨?_,trivial⟩
  rw[h1]
  have atu:(convert s d (.slice A m c)).run P w=(Conv.bytesToString (.slice A m c)).run P w:=by
   cases A <;> simp[convert,run_underlying hu,run_underlying hud,run_underlying hue]
  rw[atu]
  cases A with
  |none=>
   have hn:news=[]:=by
    cases news with
    |nil=>rfl
    |cons a l'=>
     obtain⟨_,h5,_⟩:=h3 (by simp[aG])
     cases h5
   subst hn
   have:l=[]:=by
    simp only[nO,Option.some.injEq] at hl
    exact hl.symm
   subst this
   rfl
  |some a=>
   have hload:(loadCells a m).run P w= .ok ((l.map fun (c:Nat)=>(c:Int)).map (Value.int .u8)).toArray w:=by
    have hcs:aG ρ news=(l.map fun (c:Nat)=>(c:Int)).map (Value.int .u8):=by rw[hb,List.map_map];rfl
    by_cases hn:news=[]
    ·subst hn
     have hm:m=0:=by simpa using h2.symm
     subst hm
     have:l=[]:=by
      simp only[nO,Option.some.injEq] at hl
      exact hl.symm
     subst this
     exact run_loadCells_list (P:=P) w a [] (fun j v hj=>by simp at hj)
    ·obtain⟨a',ha',_,hsrc⟩:=h3 (fun e=>hn (by cases news with | nil=>rfl | cons a l=>simp[aG] at e))
     obtain rfl:=zx ha'
     have:=run_loadCells_list (P:=P) w a (aG ρ news) hsrc
     rw[ak,h2,hcs] at this
     exact this
   rw[run_bytesToString w a m c _ hload,Uu]
   rfl
 ·rename_i e hk hkj
  have hu:=(hT s i hi).ptr hk
  have hud:=(hT d j hj).Cr hkj
  split at h
  case h_2=>cases h
  case h_1 b o=>
  split at h
  case h_2=>cases h
  case h_1 vs e' ie hb hie=>
  cases hz:Nat.beq ie.size 0 with
  |true=>rw[hz] at h;cases h
  |false=>
  rw[hz] at h
  cases ho:Nat.blt o vs.length with
  |false=>rw[ho] at h;cases h
  |true=>
  rw[ho] at h
  obtain rfl:=zx h
  obtain⟨f,z,hf,hfs,_⟩:=(hT e ie hie).info
  have hheap:w.heap[ρ.blk b]? =some (.cells (aG ρ vs).toArray e' (0,0)):=hW.rep b _ hb
  refine⟨?_,hx⟩
  simp only[cv]
  exact Go.Lib.run_to_unsafe (P:=P) (w:=w) ⟨ρ.blk b,o,none⟩ hu hud hf (by rw[hfs];intro e;rw[e] at hz;cases hz) (e:=e') (cells:=vs.length) (by simp[World.shape?,hheap,ak]) (aT ho)
 ·rename_i u hk hkj
  have hu:=(hT s i hi).Cr hk
  have hud:=(hT d j hj).ptr hkj
  split at h
  case h_2=>cases h
  case h_1 b o=>
  split at h
  case h_2=>cases h
  case h_1 vs e' iu hb hiu=>
  cases hl:liesAt P P.depth e' (vs.length / P.cellsOf e') o u 1 with
  |false=>rw[hl] at h;cases h
  |true=>
  rw[hl] at h
  obtain rfl:=zx h
  obtain⟨f,z,hf,hfs,_⟩:=(hT u iu hiu).info
  have hheap:w.heap[ρ.blk b]? =some (.cells (aG ρ vs).toArray e' (0,0)):=hW.rep b _ hb
  refine⟨?_,hx⟩
  simp only[cv]
  exact Go.Lib.run_from_unsafe (P:=P) (w:=w) ⟨ρ.blk b,o,none⟩ hu hud hf (e:=e') (cells:=vs.length) (by simp[World.shape?,hheap,ak]) hl
 ·cases h
def Ct (T:bG)(W:AW)(pt n:Nat):AV→Option (AV×AW)
 | .bY=>cond (Nat.beq n 0) (some (.str [],W)) none
 | .ptr b 0=>match T.get pt,au b W.bl with
   |some i,some (.cells vs e _)=>match i.kd,T.get e with
    | .ptr e',some ie=>match nO (vs.take n) with
      |some l=>if Nat.beq e e' && Nat.beq ie.size 1 && Nat.ble n vs.length && Nat.blt 0 n && Nat.blt n 1099511627776 && Et l then some (.str l,⟨W.nx,rO b W.bl,addN b W.az,W.gl⟩) else none
      |none=>none
    |_,_=>none
   |_,_=>none
 |_=>none
theorem KS {P:Program}{T:bG}(hT:aW P T){w0:World}{ρ:Env}{W W':AW}{w:World}(hW:aO w0 ρ W w){pt it ty n:Nat}{x v:AV}(h:Ct T W pt n x=some (v,W')):
 ∃w',(Builtin.unsafeString_ #[pt,it] ty #[cv ρ x,.int .i64 (n:Int)]).run P w= .ok (cv ρ v) w'∧Post w0 ρ W w ρ W' w'∧v.ok W'.nx:=by
 unfold Ct at h
 split at h
 ·cases hn:Nat.beq n 0 with
  |false=>rw[hn] at h;cases h
  |true=>
  rw[hn] at h
  obtain rfl:=(beq_iff _ _).1 hn
  obtain⟨rfl,rfl⟩:=zw (zx h)
  exact⟨w,Go.Lib.run_unsafeString_none (P:=P) (w:=w) pt it ty none,Post.refl hW,trivial⟩
 ·rename_i b
  split at h
  case h_2=>cases h
  case h_1 i vs e op hi hb=>
  split at h
  case h_2=>cases h
  case h_1 e' ie hk hie=>
  split at h
  case h_2=>cases h
  case h_1 l hl=>
  split at h
  case isFalse=>cases h
  case isTrue hc=>
  simp only[Bool.and_eq_true] at hc
  obtain⟨⟨⟨⟨⟨he,hs⟩,hle⟩,hpos⟩,hbig⟩,h8⟩:=hc
  obtain rfl:=(beq_iff _ _).1 he
  have hs:=(beq_iff _ _).1 hs
  have hle:=Nat.le_of_ble_eq_true hle
  have hpos:=aT hpos
  have hbig:=aT hbig
  have h8:=BS h8
  obtain⟨rfl,rfl⟩:=zw (zx h)
  have hu:=(hT pt i hi).ptr hk
  have hb':=nN ρ _ hl
  have hll:l.length=n:=by
   have:=congrArg List.length hb'
   rw[ak,List.length_map,List.length_take] at this
   omega
  obtain⟨cur,mM,hcell⟩:=mZ (hW.rep b _ hb)
  have hvl:vs.length≤cur.size:=by
   rcases Nat.lt_or_ge cur.size vs.length with hlt | hge
   ·have:=hcell cur.size _ (List.getElem?_eq_getElem hlt)
    simp at this
   ·exact hge
  have axV:P.cellsOf e=1:=by
   unfold Program.cellsOf
   rw[(hT e ie hie).size,hs]
   rfl
  have hrun:=Go.Lib.run_unsafeString_row (P:=P) (w:=w) pt it ty e hu axV (ρ.blk b) cur.size (by simp[World.shape?,mM]) (l.map UInt8.ofNat) (by
   intro e0
   have:l=[]:=by simpa using e0
   rw[this] at hll
   simp at hll
   omega) (by rw[List.length_map,hll];omega) (by rw[List.length_map,hll];omega) (fun j y hj=>by
   rw[addr_add,Nat.zero_add]
   rw[List.getElem?_map] at hj
   cases hq:l[j]? with
   |none=>rw[hq] at hj;cases hj
   |some c0=>
    rw[hq] at hj
    obtain rfl:=zx hj
    have hv:(aG ρ (vs.take n))[j]? =some (.int .u8 (c0:Int)):=by rw[hb',List.getElem?_map,hq];rfl
    rw[j4] at hv
    cases hv2:(vs.take n)[j]? with
    |none=>rw[hv2] at hv;cases hv
    |some v2=>
     rw[hv2] at hv
     have hv3:vs[j]? =some v2:=by
      rw[List.getElem?_take] at hv2
      split at hv2
      ·exact hv2
      ·cases hv2
     have:=qy (hW.rep b _ hb) hv3
     rw[this]
     rw[Option.map_some] at hv
     rw[hv]
     have aA2:=h8 c0 (List.mem_of_getElem? hq)
     simp;omega)
  rw[List.length_map,hll] at hrun
  refine⟨_,hrun,hW.kill hb ?_,trivial⟩
  unfold World.freeze
  split
  ·exact Gr.refl _ _
  ·refine⟨rfl,rfl,rfl,by simp,fun j _ hj=>?_⟩
   show (w.heap.modify (ρ.blk b) _)[j]? =_
   rw[Array.getElem?_modify,if_neg hj]
 ·cases h
def DJ (T:bG)(s:Nat)(x:AV)(ix:AV):Option AV:=
 match T.get s,x,fQ ix with
 |some i,.agg l,some j=>match i.kd with
  | .array n e sz=>cond (Nat.blt j n) (Be T e sz l (j * sz)) none
  |_=>none
 |_,_,_=>none
theorem Jn {P:Program}{T:bG}(hT:aW P T){s:Nat}{x ix v:AV}(h:DJ T s x ix=some v)(ρ:Env){m:Nat}(hx:x.ok m)(w:World):(Instr.index s (cv ρ x) (cv ρ ix)).run P w= .ok (cv ρ v) w∧v.ok m:=by
 unfold DJ at h
 split at h
 case h_2=>cases h
 case h_1 i l j hi hj=>
 obtain⟨k,rfl⟩:=bP hj
 split at h
 case h_2=>cases h
 case h_1 n e sz hk=>
 cases hlt:Nat.blt j n with
 |false=>rw[hlt] at h;cases h
 |true=>
 rw[hlt] at h
 simp only[cond_true] at h
 obtain⟨hu,hs⟩:=(hT s i hi).array hk
 have hj:j < n:=aT hlt
 have hc:(0:Int)≤(j:Int)∧(j:Int) < (n:Int):=⟨by omega,by omega⟩
 refine⟨?_,FO h hx⟩
 simp only[cv,Instr.index,asIntOf,Sem.run_bind,Sem.run_pure,Result.andThen_ok,run_underlying hu,if_pos hc,fG hs,Int.toNat_natCast,Fy hT h ρ w]
def ahv (T:bG)(W:AW)(b:Builtin)(ats:List TypeId)(xs:List AV):Option (AV×AW):=
 match b,ats,xs with
 | .append,[s,u],[x,.str l]=>vU T W s u x l
 | .copy,[s,u],[x,y]=>Sc T W s u x y
 | .clear,[s],[x]=>Ep T W s x
 | .cap,[s],[.aX]=>match uY T s with | some (.slice _ _ _)=>some (.int .i64 (.ofNat 0),W) | _=>none
 | .cap,[s],[.slice _ _ _ _ (some c)]=>match uY T s with | some (.slice _ _ _)=>some (.int .i64 (.ofNat c),W) | _=>none
 | .len,[s],[.map b]=>match uY T s,au b W.bl with
   |some (.map _ _),some (.map es _)=>some (.int .i64 (.ofNat es.length),W)
   |_,_=>none
 | .unsafeSliceData,_,[.aX]=>some (.bY,W)
 | .unsafeSliceData,_,[.slice b o _ _ (some (_c+1))]=>some (.ptr b o,W)
 | .unsafeSliceData,_,[.slice b o k n none]=>match au b W.bl with
   |some (.cells vs _ (some 1))=>cond (Nat.ble (k+n) vs.length) (cond (Nat.blt 0 n) (some (.ptr b o,W)) none) none
   |_=>none
 | .unsafeString,[pt,_],[x,.int .i64 (.ofNat n)]=>Ct T W pt n x
 |_,_,_=>none
theorem ac2 {P:Program}{T:bG}(hT:aW P T){w0:World}{ρ:Env}{W W':AW}{w:World}(hW:aO w0 ρ W w){b:Builtin}{ats:List TypeId}{xs:List AV}{v:AV}(h:ahv T W b ats xs=some (v,W'))(hx:oks W.nx xs)(ty:TypeId)(cs:Array Bool):
 ∃ρ' w',(builtin b ats.toArray ty cs (aG ρ xs).toArray).run P w= .ok (.value (cv ρ' v)) w'∧Post w0 ρ W w ρ' W' w'∧v.ok W'.nx:=by
 unfold ahv at h
 split at h
 ·rename_i s u x l
  obtain⟨ρ',w',h1,h2,h3⟩:=Kl (ty:=ty) hT hW h hx.1
  refine⟨ρ',w',?_,h2,h3⟩
  have h1':(Builtin.append_ #[s,u] ty #[cv ρ x,.string (aa l)]).run P w= .ok (cv ρ' v) w':=h1
  simp only[aG,cv]
  simp[builtin,h1']
 ·rename_i s u x y
  obtain⟨w',h1,h2,h3⟩:=VG (ty:=ty) hT hW h
  refine⟨ρ,w',?_,h2,h3⟩
  simp only[aG]
  simp[builtin,h1]
 ·rename_i s x
  obtain⟨w',h1,h2,h3⟩:=NL (ty:=ty) hT hW h
  refine⟨ρ,w',?_,h2,h3⟩
  simp only[aG]
  simp[builtin,h1]
 ·rename_i s
  split at h
  ·rename_i hk
   obtain⟨i,hi,hk⟩:=eH hk
   obtain⟨hu,_⟩:=(hT s i hi).slice hk
   obtain⟨rfl,rfl⟩:=zw (zx h)
   refine⟨ρ,w,?_,Post.refl hW,trivial⟩
   simp[aG,cv,builtin,Builtin.cap_,run_underlying hu,goInt]
  ·cases h
 ·rename_i s b' o k n c
  split at h
  ·rename_i hk
   obtain⟨i,hi,hk⟩:=eH hk
   obtain⟨hu,_⟩:=(hT s i hi).slice hk
   obtain⟨rfl,rfl⟩:=zw (zx h)
   refine⟨ρ,w,?_,Post.refl hW,trivial⟩
   simp[aG,cv,builtin,Builtin.cap_,run_underlying hu,goInt]
  ·cases h
 ·rename_i s b'
  split at h
  ·rename_i es clock hk hb
   obtain⟨i,hi,hk⟩:=eH hk
   have hu:=(hT s i hi).map hk
   obtain⟨rfl,rfl⟩:=zw (zx h)
   have hheap:w.heap[ρ.blk b']? =some (.map (es.map (aH ρ)).toArray clock):=hW.rep b' _ hb
   refine⟨ρ,w,?_,Post.refl hW,trivial⟩
   simp[aG,cv,builtin,Builtin.len_,run_underlying hu,goInt,Go.MapKept.run_getObj_map hheap]
  ·cases h
 ·obtain⟨rfl,rfl⟩:=zw (zx h)
  refine⟨ρ,w,?_,Post.refl hW,trivial⟩
  have:=Go.Lib.run_unsafeSliceData_nil (P:=P) (w:=w) ats.toArray ty 0 0
  simp only[aG,cv]
  simp[builtin,this]
 ·rename_i b' o k n c
  obtain⟨rfl,rfl⟩:=zw (zx h)
  refine⟨ρ,w,?_,Post.refl hW,hx.1⟩
  have:=Go.Lib.run_unsafeSliceData_row (P:=P) (w:=w) ats.toArray ty ⟨ρ.blk b',o,none⟩ n (c+1) (by omega)
  simp only[aG,cv]
  simp[builtin,this]
 ·rename_i b' o k n
  split at h
  ·rename_i vs e hb
   cases h1:Nat.ble (k+n) vs.length with
   |false=>rw[h1] at h;cases h
   |true=>
   cases h2:Nat.blt 0 n with
   |false=>rw[h1,h2] at h;cases h
   |true=>
   rw[h1,h2] at h
   obtain⟨rfl,rfl⟩:=zw (zx h)
   have h1:=Nat.le_of_ble_eq_true h1
   have h2:=aT h2
   obtain⟨n',cur,q1,q2,q3,q4,q5,q6⟩:=hW.rep b' _ hb
   refine⟨ρ,w,?_,Post.refl hW,hx.1⟩
   have:=Go.Lib.run_unsafeSliceData_row (P:=P) (w:=w) ats.toArray ty ⟨ρ.blk b',o,none⟩ n (ρ.cap b' - k) (by omega)
   simp only[aG,cv]
   simp[builtin,this]
  ·cases h
 ·rename_i pt it x n
  obtain⟨w',h1,h2,h3⟩:=KS (it:=it) (ty:=ty) hT hW h
  refine⟨ρ,w',?_,h2,h3⟩
  have h1':(Builtin.unsafeString_ #[pt,it] ty #[cv ρ x,.int .i64 (Int.ofNat n)]).run P w= .ok (cv ρ v) w':=h1
  simp only[aG,cv,builtin,Sem.run_bind]
  rw[show (Builtin.unsafeString_ [pt,it].toArray ty [cv ρ x,.int .i64 (Int.ofNat n)].toArray).run P w= .ok (cv ρ v) w' from h1']
  rfl
 ·cases h
def acI (P:Program)(T:bG)(t:TT)(W:AW):Op→Option (AV×AW)
 | .makeSlice s l c=>match fQ (ev t l),fQ (ev t c) with
   |some l,some c=>RB T W s l c
   |_,_=>none
 | .makeMap _s none=>some (.map W.nx,W.push (.map [] 0))
 | .makeMap s (some r)=>match uY T s,fQ (ev t r) with
   |some (.map _ _),some _=>some (.map W.nx,W.push (.map [] 0))
   |_,_=>none
 | .insert s m k v=>(oD T W s (ev t m) (ev t k) (ev t v)).map fun W'=>(.tuple [],W')
 | .mapUpdate s m k v=>(oD T W s (ev t m) (ev t k) (ev t v)).map fun W'=>(.tuple [],W')
 | .lookup s m k ok=>match abw T W s (ev t m) (ev t k) ok with
   |some v=>some (v,W)
   |none=>(Na T W s (ev t m) (ev t k) ok).map fun v=>(v,W)
 | .range s x=>qA T W s (ev t x)
 | .next it str=>vH W str (ev t it)
 | .entry it=>(Nz W (ev t it)).map fun v=>(v,W)
 | .makeInterface s x=>match T.get s with
   |some _=>some (.iface s (ev t x),W)
   |none=>none
 | .index s x ix=>(DJ T s (ev t x) (ev t ix)).map fun v=>(v,W)
 | .binOp op s x y _=>match op with
   | .eql=>(VK T s (ev t x) (ev t y)).map fun b=>(.bool b,W)
   | .neq=>(VK T s (ev t x) (ev t y)).map fun b=>(.bool (!b),W)
   |_=>none
 | .convert s d x=>(acM P T W s d (ev t x)).map fun v=>(v,W)
 | .call c=>match c.callee with
   | .builtin b=>ahv T W b c.argTypes.toList (c.args.toList.map (ev t))
   |_=>none
 |_=>none
theorem acH {P:Program}{T:bG}(hT:aW P T){w0:World}{ρ:Env}{N:Nat}{t:TT}{a:Act}{W W':AW}{w:World}(ht:aR ρ W.nx N t a)(hW:aO w0 ρ W w){o:Oper}{v:AV}(h:acI P T t W o.op=some (v,W')):
 ∃ρ' w',((execOp a.eval o).run P w= .ok (.value (cv ρ' v)) w'∨((execOp a.eval o).run P w= .ok .skip w'∧v= .tuple []))∧Post w0 ρ W w ρ' W' w'∧v.ok W'.nx:=by
 have abb:Post w0 ρ W w (ρ.up W.nx w.heap.size 0) (W.push (.map [] 0)) (w.alloc (.map #[] 0)):=hW.new (c:=0) (jJ w _) (zu _) (by simp) (k:=.map [] 0) (fun x hx=>by cases hx) (by
  show _=_
  rw[Env.aP];exact World.alloc_heap_new _ _)
 obtain⟨dst,op,type,pos,after,guard⟩:=o
 dsimp only at h
 unfold acI at h
 split at h
 ·rename_i s l c
  split at h
  ·rename_i l' c' hl hc
   obtain⟨kl,hl⟩:=bP hl
   obtain⟨kc,hc⟩:=bP hc
   obtain⟨ρ',w',h1,h2,h3⟩:=UR (kl:=kl) (kc:=kc) hT hW h
   refine⟨ρ',w',.inl ?_,h2,h3⟩
   have e1:cv ρ (.int kl (l':Int))= .int kl (l':Int):=rfl
   simp only[execOp,ht.eval,hl,hc,cv,Sem.run_bind,h1,Result.andThen_ok,Sem.run_pure]
  ·cases h
 ·rename_i s
  obtain⟨rfl,rfl⟩:=zw (zx h)
  refine⟨_,_,.inl ?_,abb,Nat.lt_succ_self _⟩
  simp only[cv,Env.aP]
  simp[execOp,Instr.makeMap,newObj,lJ]
 ·rename_i s r
  split at h
  ·rename_i kt et n hk hr
   obtain⟨i,hi,hk⟩:=eH hk
   have hu:=(hT s i hi).map hk
   obtain⟨kk,hr⟩:=bP hr
   obtain⟨rfl,rfl⟩:=zw (zx h)
   refine⟨_,_,.inl ?_,abb,Nat.lt_succ_self _⟩
   simp only[cv,Env.aP]
   simp[execOp,Instr.makeMap,newObj,lJ,ht.eval,hr,cv,run_underlying hu,asInt,asIntOf]
  ·cases h
 ·rename_i s m k x
  obtain⟨W1,h1,h2⟩:=Option.map_eq_some_iff.1 h
  obtain⟨rfl,rfl⟩:=zw h2
  obtain⟨w',h3,h4⟩:=uA hT hW h1 (ht.fu k) (ht.fu x)
  refine⟨ρ,w',.inr ⟨?_,rfl⟩,h4,trivial⟩
  simp only[execOp,ht.eval,Sem.run_bind,h3,Result.andThen_ok,Sem.run_pure]
 ·rename_i s m k x
  obtain⟨W1,h1,h2⟩:=Option.map_eq_some_iff.1 h
  obtain⟨rfl,rfl⟩:=zw h2
  obtain⟨w',h3,h4⟩:=uA hT hW h1 (ht.fu k) (ht.fu x)
  refine⟨ρ,w',.inr ⟨?_,rfl⟩,h4,trivial⟩
  simp only[execOp,ht.eval,Sem.run_bind,h3,Result.andThen_ok,Sem.run_pure]
 ·rename_i s m k ok
  split at h
  ·rename_i u h1
   obtain⟨rfl,rfl⟩:=zw (zx h)
   obtain⟨h3,h4⟩:=UY hT hW h1
   refine⟨ρ,w,.inl ?_,Post.refl hW,h4⟩
   simp only[execOp,ht.eval,Sem.run_bind,h3,Result.andThen_ok,Sem.run_pure]
  ·obtain⟨u,h1,h2⟩:=Option.map_eq_some_iff.1 h
   obtain⟨rfl,rfl⟩:=zw h2
   obtain⟨h3,h4⟩:=M9 hT hW h1
   refine⟨ρ,w,.inl ?_,Post.refl hW,h4⟩
   simp only[execOp,ht.eval,Sem.run_bind,h3,Result.andThen_ok,Sem.run_pure]
 ·rename_i s x
  obtain⟨ρ',w',h1,h2,h3⟩:=De hT hW h
  refine⟨ρ',w',.inl ?_,h2,h3⟩
  simp only[execOp,ht.eval,Sem.run_bind,h1,Result.andThen_ok,Sem.run_pure]
 ·rename_i it str
  obtain⟨w',h1,h2,h3⟩:=IX (P:=P) (ty:=type) hW h
  refine⟨ρ,w',.inl ?_,h2,h3⟩
  simp only[execOp,ht.eval,Sem.run_bind,h1,Result.andThen_ok,Sem.run_pure]
 ·rename_i it
  obtain⟨u,hu,h2⟩:=Option.map_eq_some_iff.1 h
  obtain⟨rfl,rfl⟩:=zw h2
  obtain⟨h1,h3⟩:=Ny (P:=P) hW hu
  refine⟨ρ,w,.inl ?_,Post.refl hW,h3⟩
  simp only[execOp,ht.eval,Sem.run_bind,h1,Result.andThen_ok,Sem.run_pure]
 ·rename_i s x
  split at h
  ·rename_i i hi
   obtain⟨rfl,rfl⟩:=zw (zx h)
   obtain⟨d,hu,hd⟩:=(hT s i hi).aa5
   refine⟨ρ,w,.inl ?_,Post.refl hW,ht.fu x⟩
   simp only[execOp,ht.eval,Instr.makeInterface,Sem.run_bind,run_underlying hu,Result.andThen_ok,cv]
   cases d <;> first | rfl | exact (hd _ rfl).elim
  ·cases h
 ·rename_i s x ix
  obtain⟨u,h1,h2⟩:=Option.map_eq_some_iff.1 h
  obtain⟨rfl,rfl⟩:=zw h2
  obtain⟨h3,h4⟩:=Jn hT h1 ρ (ht.fu x) w
  refine⟨ρ,w,.inl ?_,Post.refl hW,h4⟩
  simp only[execOp,ht.eval,Sem.run_bind,h3,Result.andThen_ok,Sem.run_pure]
 ·rename_i op s x y ty
  split at h
  ·obtain⟨b,hb,h2⟩:=Option.map_eq_some_iff.1 h
   obtain⟨rfl,rfl⟩:=zw h2
   exact⟨ρ,w,.inl (Sd hT (op:=.eql) ht hb (.inl ⟨rfl,rfl⟩)),Post.refl hW,trivial⟩
  ·obtain⟨b,hb,h2⟩:=Option.map_eq_some_iff.1 h
   obtain⟨rfl,rfl⟩:=zw h2
   exact⟨ρ,w,.inl (Sd hT (op:=.neq) ht hb (.inr ⟨rfl,rfl⟩)),Post.refl hW,trivial⟩
  ·cases h
 ·rename_i s d x
  obtain⟨u,h1,h2⟩:=Option.map_eq_some_iff.1 h
  obtain⟨rfl,rfl⟩:=zw h2
  obtain⟨h3,h4⟩:=VH hT hW h1 (ht.fu x)
  refine⟨ρ,w,.inl ?_,Post.refl hW,h4⟩
  simp only[execOp,ht.eval,Sem.run_bind,h3,Result.andThen_ok,Sem.run_pure]
 ·rename_i c
  obtain⟨callee,args,ats⟩:=c
  dsimp only at h
  split at h
  ·rename_i b
   have hxs:oks W.nx (args.toList.map (ev t)):=(bO _ _).2 fun v hv=>by
    obtain⟨x,_,rfl⟩:=List.mem_map.1 hv
    exact ht.fu x
   obtain⟨ρ',w',h1,h2,h3⟩:=ac2 hT hW h hxs type (args.map fun | .const _=>true | _=>false)
   refine⟨ρ',w',.inl ?_,h2,h3⟩
   have e1:args.map a.eval=(aG ρ (args.toList.map (ev t))).toArray:=by
    apply Array.ext'
    simp[bA,ht.eval]
   simp only[execOp,resolve,Sem.run_bind,Sem.run_pure,Result.andThen_ok,invoke,e1]
   exact h1
  ·cases h
 ·cases h
theorem qP {T:bG}{W W':AW}{s:Nat}{m k v:AV}(h:oD T W s m k v=some W'):∀b,b∈W.az→b∈W'.az:=by
 unfold oD at h
 split at h
 case h_2=>cases h
 split at h
 case h_2=>cases h
 split at h
 case h_2=>cases h
 rename_i ik hik
 cases hko:keyOf ik.kd k with
 |false=>rw[hko] at h;cases h
 |true=>
 rw[hko] at h
 simp only[cond_true] at h
 repeat' split at h
 all_goals first
  |(obtain rfl:=zx h;exact fun b hb=>(dD _ _ _).2 (.inr hb))
  |cases h
theorem VC {P:Program}{T:bG}{t:TT}{W W':AW}{o:Op}{v:AV}(h:acI P T t W o=some (v,W')):∀b,b∈W.az→b∈W'.az:=by
 have fin:∀{v':AV} {W1:AW},some (v',W1)=some (v,W')→(∀b,b∈W.az→b∈W1.az)→∀b,b∈W.az→b∈W'.az:=fun h hb=>by
  obtain⟨_,rfl⟩:=zw (zx h)
  exact hb
 have add:∀(c:Nat) b,b∈W.az→b∈addN c W.az:=fun c b hb=>(dD _ _ _).2 (.inr hb)
 unfold acI at h
 split at h
 ·split at h
  ·unfold RB at h
   repeat' split at h
   all_goals first
    |exact fin h fun b hb=>hb
    |cases h
  ·cases h
 ·exact fin h fun b hb=>hb
 ·split at h
  ·exact fin h fun b hb=>hb
  ·cases h
 ·obtain⟨W1,h1,h2⟩:=Option.map_eq_some_iff.1 h
  obtain⟨rfl,rfl⟩:=zw h2
  exact qP h1
 ·obtain⟨W1,h1,h2⟩:=Option.map_eq_some_iff.1 h
  obtain⟨rfl,rfl⟩:=zw h2
  exact qP h1
 ·split at h
  ·exact fin h fun b hb=>hb
  ·obtain⟨W1,h1,h2⟩:=Option.map_eq_some_iff.1 h
   obtain⟨rfl,rfl⟩:=zw h2
   exact fun b hb=>hb
 ·unfold qA at h
  repeat' split at h
  all_goals first
   |exact fin h fun b hb=>hb
   |cases h
 ·unfold vH at h
  simp only[Bool.cond_eq_ite] at h
  repeat' split at h
  all_goals first
   |exact fin h fun b hb=>hb
   |exact fin h (add _)
   |cases h
 ·obtain⟨W1,h1,h2⟩:=Option.map_eq_some_iff.1 h
  obtain⟨rfl,rfl⟩:=zw h2
  exact fun b hb=>hb
 ·split at h
  ·exact fin h fun b hb=>hb
  ·cases h
 ·obtain⟨W1,h1,h2⟩:=Option.map_eq_some_iff.1 h
  obtain⟨rfl,rfl⟩:=zw h2
  exact fun b hb=>hb
 ·split at h
  ·obtain⟨W1,h1,h2⟩:=Option.map_eq_some_iff.1 h
   obtain⟨rfl,rfl⟩:=zw h2
   exact fun b hb=>hb
  ·obtain⟨W1,h1,h2⟩:=Option.map_eq_some_iff.1 h
   obtain⟨rfl,rfl⟩:=zw h2
   exact fun b hb=>hb
  ·cases h
 ·obtain⟨W1,h1,h2⟩:=Option.map_eq_some_iff.1 h
  obtain⟨rfl,rfl⟩:=zw h2
  exact fun b hb=>hb
 ·split at h
  ·unfold ahv at h
   split at h
   ·unfold vU at h
    repeat' split at h
    all_goals first
     |exact fin h fun b hb=>hb
     |exact fin h (add _)
     |cases h
   ·unfold Sc at h
    dsimp only at h
    split at h
    case h_2=>cases h
    split at h
    case h_2=>cases h
    split at h
    ·split at h
     ·rename_i m news _ _
      generalize (if Nat.ble m _ then m else _)=k at h
      repeat' split at h
      all_goals first
       |exact fin h fun b hb=>hb
       |exact fin h (add _)
       |cases h
     ·exact fin h fun b hb=>hb
     ·cases h
    ·split at h
     ·exact fin h fun b hb=>hb
     ·cases h
    ·split at h
     ·exact fin h fun b hb=>hb
     ·cases h
    ·cases h
   ·unfold Ep at h
    dsimp only at h
    repeat' split at h
    all_goals first
     |exact fin h (add _)
     |cases h
   ·split at h
    ·exact fin h fun b hb=>hb
    ·cases h
   ·split at h
    ·exact fin h fun b hb=>hb
    ·cases h
   ·split at h
    ·exact fin h fun b hb=>hb
    ·cases h
   ·exact fin h fun b hb=>hb
   ·exact fin h fun b hb=>hb
   ·simp only[Bool.cond_eq_ite] at h
    repeat' split at h
    all_goals first
     |exact fin h fun b hb=>hb
     |cases h
   ·unfold Ct at h
    simp only[Bool.cond_eq_ite] at h
    repeat' split at h
    all_goals first
     |exact fin h fun b hb=>hb
     |exact fin h (add _)
     |cases h
   ·cases h
  ·cases h
 ·cases h
def fw (ro:Option Nat):Fence:={ Fence.wide with round:=ro}
theorem xO {ro:Option Nat}{n:Nat}{P:Program}{g:Nat}{args:Array Value}{w:World}{R:Ending→World→Prop}(h:Calls P g args w R):CallsIn (fw ro) n P g args w R:=
 (callsIn_wide (n:=n)).2 h
def ah (P:Program)(call:ag):Prop:=∀g args W v W',call g args W=some (v,W')→
 (∃fn,P.funcs[g]? =some fn∧(fn.name == "runtime.NumGoroutine")=false∧fn.body.isSome=true)∧(∀b,b∈W.az→b∈W'.az)∧
 ∀w0 ρ w,oks W.nx args→aO w0 ρ W w→Calls P g (aG ρ args).toArray w fun e w'=>∃ρ',e= .returned (cv ρ' v)∧Post w0 ρ W w ρ' W' w'∧v.ok W'.nx
def dK (P:Program)(ext:ag):Prop:=∀g args W v W',ext g args W=some (v,W')→(∀b,b∈W.az→b∈W'.az)∧
 ∀w0 ρ w,oks W.nx args→aO w0 ρ W w→∃ρ' w',(callFunc g (aG ρ args).toArray).run P w= .ok (.value (cv ρ' v)) w'∧Post w0 ρ W w ρ' W' w'∧v.ok W'.nx
abbrev eQ:=Nat→List AV→AW→Option (AV×AW)
def eP (P:Program)(y:eQ):Prop:=∀b args W v W',y b args W=some (v,W')→(∀b,b∈W.az→b∈W'.az)∧
 ∀w0 ρ w,oks W.nx args→aO w0 ρ W w→∃f tmps asqz bd,(Instr.yield (ρ.blk b) (aG ρ args).toArray).run P w= .ok (.round (ρ.blk b) f tmps asqz bd) w∧
  RoundIn Fence.wide 0 P (ρ.blk b) f tmps asqz bd w fun e w'=>∃ρ',e= .returned (cv ρ' v)∧Post w0 ρ W w ρ' W' w'∧v.ok W'.nx
def Sg (call ext:ag)(t:TT)(W:AW):Op→Option (AV×AW)
 | .call { callee:=.value f,args,..}=>match ev t f with
   | .fn (.func g) l c=>match call g (l++args.toList.map (ev t)++c) W with
     |some r=>some r
     |none=>ext g (l++args.toList.map (ev t)++c) W
   |_=>none
 |_=>none
def pq:Op→Nat
 | .move _=>0 | .assign _=>0 | .pick .. =>0 | .fieldAddr .. =>0 | .indexAddr .. =>0 | .extract .. =>0 | .field .. =>0 | .makeFunc .. =>0 | .nilCheck _=>0
 | .load .. =>1 | .store .. =>1 | .alloc _=>1 | .box .. =>1 | .buildSlice .. =>1
 | .build .. =>2
 | .call c=>match c.callee with
   | .value _=>3
   |_=>4
 |_=>4
def rR (P:Program)(T:bG)(call ext:ag)(t:TT)(W:AW)(o:Oper):Option (AV×AW):=
 match pq o.op with
 |0=>match o6 T t o.op with
  |some v=>some (v,W)
  |none=>none
 |1=>qb T t W o.op
 |2=>Eh T t W o.op
 |3=>match Sg call ext t W o.op with
  |some r=>some r
  |none=>(yj P t o).map (·,W)
 |_=>match XL T t o.op with
  |some v=>some (v,W)
  |none=>match Eh T t W o.op with
   |some r=>some r
   |none=>match qb T t W o.op with
    |some r=>some r
    |none=>match acI P T t W o.op with
     |some r=>some r
     |none=>(yj P t o).map (·,W)
def Does (P:Program)(a:Act)(o:Oper)(w0:World)(ρ:Env)(W:AW)(w:World)(v:AV)(W':AW):Prop:=
 (∃ρ' w',((execOp a.eval o).run P w= .ok (.value (cv ρ' v)) w'∨((execOp a.eval o).run P w= .ok .skip w'∧v= .tuple []))∧Post w0 ρ W w ρ' W' w'∧v.ok W'.nx)∨
 (∃g args,(execOp a.eval o).run P w= .ok (.enter g args) w∧Calls P g args w fun e w'=>∃ρ',e= .returned (cv ρ' v)∧Post w0 ρ W w ρ' W' w'∧v.ok W'.nx)
section
variable {P:Program} {T:bG} {call ext:ag}
theorem Does.wpIn {a:Act}{o:Oper}{w0:World}{ρ:Env}{W W':AW}{w:World}{v:AV}(h:Does P a o w0 ρ W w v W')(hd:∀c,o.op≠ .defer c){ro:Option Nat}{n:Nat}{K:Act→World→Prop}{Q:Exit→Act→World→Prop}
 (hk:∀ρ' w',Post w0 ρ W w ρ' W' w'→v.ok W'.nx→K (a.put o.dst (cv ρ' v)) w'):o.wpIn (fw ro) n P a w K Q:=by
 refine⟨fun _ _=>trivial,?_⟩
 rw[Oper.semAt_eq _ _ _ hd]
 rcases h with⟨ρ',w',h1,h2,h3⟩ | ⟨g,args,h1,h2⟩
 ·rcases h1 with h1 | ⟨h1,rfl⟩
  ·rw[h1];exact hk ρ' w' h2 h3
  ·rw[h1];exact hk ρ' w' h2 h3
 ·rw[h1,Oper.uponIn_enter]
  refine⟨fun h=>(by cases h),xO (h2.mono ?_)⟩
  rintro e w' ⟨ρ',rfl,h3,h4⟩
  exact hk ρ' w' h3 h4
theorem yR {ρ:Env}{n N:Nat}{t:TT}{a:Act}(ht:aR ρ n N t a){f:Operand}{g:Nat}{l c:List AV}(hf:ev t f= .fn (.func g) l c)(args:Array Operand)(ats:Array TypeId){dst:Option Tmp}{type:TypeId}{pos:String}{after:Array Edge}{guard:Option (Nat×Bool)}(w:World):
 (execOp a.eval (⟨dst,.call { callee:=.value f,args,argTypes:=ats},type,pos,after,guard⟩:Oper)).run P w=(callFunc g (aG ρ (l++args.toList.map (ev t)++c)).toArray).run P w:=by
 have e1:(aG ρ (l++args.toList.map (ev t)++c)).toArray=(aG ρ l).toArray++args.map a.eval++(aG ρ c).toArray:=by
  apply Array.ext'
  simp[bA,ht.eval]
 simp only[execOp,resolve,ht.eval,hf,cv,Deferred.ofValue,Sem.run_bind,Sem.run_pure,Result.andThen_ok,invoke,e1]
theorem ahy {ρ:Env}{n N:Nat}{t:TT}{a:Act}(ht:aR ρ n N t a){f:Operand}{fn:Fn}{l c:List AV}(hf:ev t f= .fn fn l c)(args:Array Operand):oks n (l++args.toList.map (ev t)++c):=by
 have hfo:=ht.fu f
 rw[hf] at hfo
 exact bg (bg hfo.1 ((bO _ _).2 fun v hv=>by
  obtain⟨x,_,rfl⟩:=List.mem_map.1 hv
  exact ht.fu x)) hfo.2
theorem NR (hC:ah P call)(hX:dK P ext){w0:World}{ρ:Env}{N:Nat}{t:TT}{a:Act}{W W':AW}{w:World}(ht:aR ρ W.nx N t a)(hW:aO w0 ρ W w){o:Oper}{v:AV}(hu:Sg call ext t W o.op=some (v,W')):Does P a o w0 ρ W w v W':=by
 obtain⟨dst,op,type,pos,after,guard⟩:=o
 dsimp only at hu
 unfold Sg at hu
 split at hu
 ·rename_i f args ats
  split at hu
  ·rename_i g l c hf
   have hargs:=ahy ht hf args
   split at hu
   ·rename_i r hr
    obtain rfl:=zx hu
    obtain⟨⟨fn,q1,q2,q3⟩,_,hcall⟩:=hC _ _ _ _ _ hr
    refine .inr ⟨g,(aG ρ (l++args.toList.map (ev t)++c)).toArray,?_,hcall w0 ρ w hargs hW⟩
    have hb:fn.body.isNone=false:=by cases hq:fn.body <;> simp_all
    rw[yR ht hf]
    simp only[callFunc,Sem.run_bind,Sem.run_pure,Result.andThen_ok,run_program,q1,q2,hb,Bool.false_eq_true,if_false]
   ·obtain⟨_,hx⟩:=hX _ _ _ _ _ hu
    obtain⟨ρ',w',h1,h2,h3⟩:=hx w0 ρ w hargs hW
    refine .inl ⟨ρ',w',.inl ?_,h2,h3⟩
    rw[yR ht hf,h1]
  ·cases hu
 ·cases hu
theorem gH (hT:aW P T)(hC:ah P call)(hX:dK P ext){w0:World}{ρ:Env}{N:Nat}{t:TT}{a:Act}{W W':AW}{w:World}(ht:aR ρ W.nx N t a)(hW:aO w0 ρ W w){o:Oper}{v:AV}(h:rR P T call ext t W o=some (v,W')):Does P a o w0 ρ W w v W':=by
 unfold rR at h
 have fall:(yj P t o).map (·,W)=some (v,W')→Does P a o w0 ρ W w v W':=fun h=>by
  obtain⟨u,hu,h2⟩:=Option.map_eq_some_iff.1 h
  obtain⟨rfl,rfl⟩:=zw h2
  obtain⟨h1,h2⟩:=tC hu ht w
  exact .inl ⟨ρ,w,.inl h1,Post.refl hW,h2⟩
 split at h
 ·split at h
  ·rename_i u hu
   obtain⟨rfl,rfl⟩:=zw (zx h)
   obtain⟨h1,h2⟩:=kJ hT ht hu w
   exact .inl ⟨ρ,w,.inl h1,Post.refl hW,h2⟩
  ·cases h
 ·obtain⟨ρ',w',h1,h2,h3⟩:=ru hT ht hW h
  exact .inl ⟨ρ',w',h1,h2,h3⟩
 ·obtain⟨ρ',h1,h2,h3⟩:=yN hT ht hW h
  exact .inl ⟨ρ',w,.inl (h1 w),h2,h3⟩
 ·split at h
  ·rename_i r hu
   obtain rfl:=zx h
   exact NR hC hX ht hW hu
  ·exact fall h
 split at h
 ·rename_i u hu
  obtain⟨rfl,rfl⟩:=zw (zx h)
  obtain⟨h1,h2⟩:=wH hT ht hu w
  exact .inl ⟨ρ,w,.inl h1,Post.refl hW,h2⟩
 split at h
 ·rename_i r hu
  obtain rfl:=zx h
  obtain⟨ρ',h1,h2,h3⟩:=yN hT ht hW hu
  exact .inl ⟨ρ',w,.inl (h1 w),h2,h3⟩
 split at h
 ·rename_i r hu
  obtain rfl:=zx h
  obtain⟨ρ',w',h1,h2,h3⟩:=ru hT ht hW hu
  exact .inl ⟨ρ',w',h1,h2,h3⟩
 split at h
 ·rename_i r hu
  obtain rfl:=zx h
  obtain⟨ρ',w',h1,h2,h3⟩:=acH hT ht hW hu
  exact .inl ⟨ρ',w',h1,h2,h3⟩
 ·exact fall h
end
section
variable {P:Program} {T:bG} {call ext:ag}
theorem Fj {W W':AW}{s:Nat}{x v:AV}{lo hi:Option AV}(h:pG T W s x lo hi=some (v,W')):W'.az=W.az:=by
 unfold pG at h
 repeat' split at h
 all_goals first
  |(obtain⟨_,rfl⟩:=zw (zx h);rfl)
  |cases h
theorem Cz {W W':AW}{s:Nat}{x hi mx v:AV}{lo:Option AV}(h:lI T W s x lo hi mx=some (v,W')):W'.az=W.az:=by
 unfold lI at h
 repeat' split at h
 all_goals first
  |(obtain⟨_,rfl⟩:=zw (zx h);rfl)
  |cases h
theorem tK {t:TT}{W W':AW}{o:Op}{v:AV}(h:Eh T t W o=some (v,W')):W'.az=W.az:=by
 unfold Eh at h
 repeat' split at h
 all_goals first
  |exact Fj h
  |exact Cz h
  |(obtain⟨_,_,h2⟩:=Option.map_eq_some_iff.1 h;obtain⟨_,rfl⟩:=zw h2;rfl)
  |(obtain⟨_,rfl⟩:=zw (zx h);rfl)
  |cases h
theorem Ey {W W':AW}{s:Nat}{x y v:AV}(h:rF T W s x y=some (v,W')):∀b,b∈W.az→b∈W'.az:=by
 unfold rF at h
 repeat' split at h
 all_goals first
  |(obtain⟨_,rfl⟩:=zw (zx h);exact fun b hb=>hb)
  |(obtain⟨_,rfl⟩:=zw (zx h);exact fun b hb=>(dD _ _ _).2 (.inr hb))
  |cases h
theorem BM {t:TT}{W W':AW}{o:Op}{v:AV}(h:qb T t W o=some (v,W')):∀b,b∈W.az→b∈W'.az:=by
 unfold qb at h
 repeat' split at h
 all_goals first
  |exact Ey h
  |(obtain⟨_,_,h2⟩:=Option.map_eq_some_iff.1 h;obtain⟨_,rfl⟩:=zw h2;exact fun b hb=>hb)
  |(obtain⟨_,_,h2⟩:=Option.map_eq_some_iff.1 h;obtain⟨_,rfl⟩:=zw h2;exact fun b hb=>(dD _ _ _).2 (.inr hb))
  |(obtain⟨_,rfl⟩:=zw (zx h);exact fun b hb=>hb)
  |cases h
theorem F6 (hC:ah P call)(hX:dK P ext){t:TT}{W W':AW}{o:Oper}{v:AV}(h:rR P T call ext t W o=some (v,W')):∀b,b∈W.az→b∈W'.az:=by
 unfold rR at h
 have fall:(yj P t o).map (·,W)=some (v,W')→∀b,b∈W.az→b∈W'.az:=fun h=>by
  obtain⟨_,_,h2⟩:=Option.map_eq_some_iff.1 h
  obtain⟨_,rfl⟩:=zw h2
  exact fun b hb=>hb
 split at h
 ·split at h
  ·obtain⟨_,rfl⟩:=zw (zx h);exact fun b hb=>hb
  ·cases h
 ·exact BM h
 ·intro b hb
  rw[tK h];exact hb
 ·split at h
  ·rename_i r hr
   obtain rfl:=zx h
   unfold Sg at hr
   repeat' split at hr
   ·rename_i r' hr'
    obtain rfl:=zx hr
    exact (hC _ _ _ _ _ hr').2.1
   ·exact (hX _ _ _ _ _ hr).1
   ·cases hr
   ·cases hr
  ·exact fall h
 split at h
 ·obtain⟨_,rfl⟩:=zw (zx h);exact fun b hb=>hb
 split at h
 ·rename_i r hr
  obtain rfl:=zx h
  intro b hb
  rw[tK hr];exact hb
 split at h
 ·rename_i r hr
  obtain rfl:=zx h
  exact BM hr
 split at h
 ·rename_i r hr
  obtain rfl:=zx h
  exact VC hr
 ·exact fall h
end
def vZ (N:Nat)(t:TT)(ops:List Oper)(j:Nat):Option Bool:=
 match (ops[j]?).bind (·.dst) with
 |some d=>if Nat.blt d N then (match dP d t with | .bool b=>some b | .raw (.bool b)=>some b | _=>none) else none
 |none=>none
theorem ES {ρ:Env}{n N:Nat}{t:TT}{a:Act}(h:aR ρ n N t a)(ops:Array Oper)(j:Nat):yielded ops a.tmps j=vZ N t ops.toList j:=by
 unfold yielded vZ
 rw[Array.getElem?_toList]
 cases (ops[j]?).bind (·.dst) with
 |none=>rfl
 |some d=>
  simp only[Option.bind_some]
  have hg:=h.get d
  by_cases hd:d < N
  ·have hb:Nat.blt d N=true:=by simpa [Nat.blt_eq] using hd
   rw[if_pos hb]
   have e1:a.tmps[d]? =some (cv ρ (dP d t)):=by
    rw[← hg,Array.getElem?_eq_getElem (by rw[h.size];exact hd)]
    simp[Array.getD,h.size,hd]
   rw[e1]
   cases dP d t with
   |raw v=>cases v <;> simp[cv]
   |slice b o k m c=>cases c <;> simp[cv]
   |_=>simp[cv]
  ·have hb:¬Nat.blt d N=true:=by simpa [Nat.blt_eq] using hd
   have e2:a.tmps[d]? =none:=Array.getElem?_eq_none (by rw[h.size];exact Nat.le_of_not_lt hd)
   rw[if_neg hb,e2]
def fe (N:Nat)(t:TT)(ops:List Oper)(o:Oper):Bool:=
 match o.guard with
 |none=>true
 |some (j,want)=>vZ N t ops j == some want
theorem eZ {ρ:Env}{n N:Nat}{t:TT}{a:Act}(h:aR ρ n N t a)(ops:Array Oper)(o:Oper):Region.wanted o (yielded ops a.tmps)=fe N t ops.toList o:=by
 unfold Region.wanted fe
 cases o.guard with
 |none=>rfl
 |some x=>
  obtain⟨j,want⟩:=x
  simp only[ES h]
def jv (P:Program)(T:bG)(call ext:ag)(yl:eQ)(ro:Option Nat)(N:Nat)(t:TT)(W:AW)(o:Oper):Option (AV×TT×AW):=
 match o.op with
 | .defer { callee:=.value f,args,..}=>match ro,ev t f with
   |none,.fn (.func g) l c=>
    cond (Nat.blt N 1048575) (match dP N t with
     | .rA ds=>some (.tuple [],TT.put 20 t N (.rA (.fn (.func g) (l++args.toList.map (ev t)) c::ds)),W)
     | .tuple []=>some (.tuple [],TT.put 20 t N (.rA [.fn (.func g) (l++args.toList.map (ev t)) c]),W)
     |_=>none) none
   |_,_=>none
 | .defer _=>none
 | .call { callee:=.value f,args,argTypes:=_}=>match ev t f with
   | .ug b=>(yl b (args.toList.map (ev t)) W).map fun r=>(r.1,t,r.2)
   |_=>(rR P T call ext t W o).map fun r=>(r.1,t,r.2)
 |_=>(rR P T call ext t W o).map fun r=>(r.1,t,r.2)
def XO (P:Program)(T:bG)(call ext:ag)(yl:eQ)(ro:Option Nat)(N:Nat)(t:TT)(W:AW)(o:Oper):Option (AV×TT×AW):=
 match o.op with
 | .move x=>some (ev t x,t,W)
 | .assign x=>some (ev t x,t,W)
 | .load e x=>match qQ T W.bl e (ev t x) with
   |some v=>some (v,t,W)
   |none=>jv P T call ext yl ro N t W o
 | .extract x i=>match ev t x with
   | .tuple l=>match l[i]? with
     |some v=>some (v,t,W)
     |none=>none
   |_=>none
 | .nilCheck x=>match ev t x with
   | .ptr b o=>some (.ptr b o,t,W)
   |_=>jv P T call ext yl ro N t W o
 | .binOp op _ x y _=>match ev t x,ev t y with
   | .int k (.ofNat a),.int k' (.ofNat b)=>match cond (kEq k k') (DF op k a b) none with
     |some v=>some (v,t,W)
     |none=>jv P T call ext yl ro N t W o
   |_,_=>jv P T call ext yl ro N t W o
 | .store e x y=>match Cw T W.bl e (ev t y) (ev t x) with
   |some r=>some (.tuple [],t,⟨W.nx,gF r.1 r.2 W.bl,addN r.1 W.az,W.gl⟩)
   |none=>none
 |_=>jv P T call ext yl ro N t W o
theorem XN {P:Program}{T:bG}{call ext:ag}{yl:eQ}{ro:Option Nat}{N:Nat}{t:TT}{W:AW}{o:Oper}{r:AV×TT×AW}(h:XO P T call ext yl ro N t W o=some r):jv P T call ext yl ro N t W o=some r:=by
 unfold XO at h
 split at h
 ·rename_i x hop
  unfold jv rR
  simp only[hop,pq,o6]
  exact h
 ·rename_i x hop
  unfold jv rR
  simp only[hop,pq,o6]
  exact h
 ·rename_i e x hop
  split at h
  ·rename_i v hv
   unfold jv rR
   simp only[hop,pq,qb,hv]
   exact h
  ·exact h
 ·rename_i x i hop
  split at h
  ·rename_i l hx
   split at h
   ·rename_i v hv
    unfold jv rR
    simp only[hop,pq,o6,hx,hv]
    exact h
   ·cases h
  ·cases h
 ·rename_i x hop
  split at h
  ·rename_i b o' hx
   unfold jv rR
   simp only[hop,pq,o6,hx]
   exact h
  ·exact h
 ·rename_i op s x y ty hop
  split at h
  ·rename_i k a k' b hx hy
   split at h
   ·rename_i v hv
    unfold jv rR
    simp only[hop,pq,XL,hx,hy,hv]
    exact h
   ·exact h
  ·exact h
 ·rename_i e x y hop
  split at h
  ·rename_i r' hr
   unfold jv rR
   simp only[hop,pq,qb,hr]
   exact h
  ·cases h
 ·exact h
def UC (P:Program)(T:bG)(call ext:ag)(yl:eQ)(ro:Option Nat)(N:Nat)(all:List Oper):List Oper→TT→AW→Option (TT×AW)
 |[],t,W=>some (t,W)
 |o::rest,t,W=>
  cond (kT N o.dst)
   (cond (fe N t all o) (match XO P T call ext yl ro N t W o with
     |some (v,t',W')=>UC P T call ext yl ro N all rest (dO o.dst v t') W'
     |none=>none)
   (UC P T call ext yl ro N all rest (dO o.dst (.tuple []) t) W)) none
theorem LD {ρ ρ':Env}{n:Nat}(he:Ext n ρ ρ'){ro:Option Nat}(hr:∀b,ro=some b→b < n):ro.map ρ'.blk=ro.map ρ.blk:=by
 cases ro with
 |none=>rfl
 |some b=>rw[Option.map_some,Option.map_some,he.blk b (hr b rfl)]
theorem aR.defer {ρ:Env}{n N:Nat}{t:TT}{a:Act}(h:aR ρ n N t a)(hN:N < 1048575){d:AV}{ds:List AV}(hd:d.ok n)(hds:uO ρ (dP N t)=ds.map (rC ρ))(ho:oks n ds):
 aR ρ n N (TT.put 20 t N (.rA (d::ds))) { a with defers:=rC ρ d::a.defers}:=by
 have e:=kF hN t (.rA (d::ds))
 have hN0:a.tmps.getD N undef=undef:=by
  simp[Array.getD,h.size]
 refine⟨h.size,fun j=>?_,fun j=>?_,?_⟩
 ·rw[e]
  by_cases hj:N=j
  ·subst hj
   rw[if_pos rfl,hN0]
   rfl
  ·rw[if_neg hj];exact h.get j
 ·rw[e]
  split
  ·exact⟨hd,ho⟩
  ·exact h.ok j
 ·rw[e,if_pos rfl,h.defers,hds]
  rfl
theorem XP {P:Program}{T:bG}{call ext:ag}{yl:eQ}(hT:aW P T)(hC:ah P call)(hX:dK P ext)(hY:eP P yl){w0:World}{ro:Option Nat}{N:Nat}{t t':TT}{W W':AW}{ρ:Env}{a:Act}{w:World}{o:Oper}{v:AV}
 (h:jv P T call ext yl ro N t W o=some (v,t',W')) (ht:aR ρ W.nx N t a) (hW:aO w0 ρ W w) {K:Act→World→Prop} {Q:Exit→Act→World→Prop}
 (hk:∀ρ' a' w',Post w0 ρ W w ρ' W' w'→aR ρ' W'.nx N t' a'→v.ok W'.nx→K (a'.put o.dst (cv ρ' v)) w'):o.wpIn (fw (ro.map ρ.blk)) 0 P a w K Q:=by
 have plain:(∀c,o.op≠ .defer c)→(rR P T call ext t W o).map (fun r=>(r.1,t,r.2))=some (v,t',W')→o.wpIn (fw (ro.map ρ.blk)) 0 P a w K Q:=fun hd h=>by
  obtain⟨r,hr,h2⟩:=Option.map_eq_some_iff.1 h
  simp only[Prod.mk.injEq] at h2
  obtain⟨rfl,rfl,rfl⟩:=h2
  exact (gH hT hC hX ht hW (v:=r.1) (W':=r.2) hr).wpIn hd fun ρ' w' hp hv=>hk ρ' a w' hp (ht.mono hp.ext hp.nx) hv
 unfold jv at h
 split at h
 ·rename_i f args ats hop
  split at h
  ·rename_i g l c hf
   cases hN:Nat.blt N 1048575 with
   |false=>rw[hN] at h;cases h
   |true=>
    rw[hN] at h
    simp only[cond_true] at h
    have hN:=aT hN
    have hfo:=ht.fu f
    rw[hf] at hfo
    have hdo:(AV.fn (.func g) (l++args.toList.map (ev t)) c).ok W.nx:=⟨bg hfo.1 ((bO _ _).2 fun v hv=>by
     obtain⟨x,_,rfl⟩:=List.mem_map.1 hv
     exact ht.fu x),hfo.2⟩
    have hrun:(o.semAt none a.eval).run P w= .ok (.defer (rC ρ (.fn (.func g) (l++args.toList.map (ev t)) c))) w:=by
     obtain⟨dst,op,type,pos,after,guard⟩:=o
     dsimp only at hop
     subst hop
     have e1:(aG ρ (l++args.toList.map (ev t))).toArray=(aG ρ l).toArray++args.map a.eval:=by
      apply Array.ext'
      simp[bA,ht.eval]
     simp only[Oper.semAt_none,execOp,resolve,ht.eval,hf,cv,Deferred.ofValue,Sem.run_bind,Sem.run_pure,Result.andThen_ok,rC,e1]
    have fin:∀ds,uO ρ (dP N t)=ds.map (rC ρ)→oks W.nx ds→v= .tuple []→t'=TT.put 20 t N (.rA (.fn (.func g) (l++args.toList.map (ev t)) c::ds))→W'=W→o.wpIn (fw none) 0 P a w K Q:=fun ds h1 h2 h3 h4 h5=>by
     subst h3;subst h4;subst h5
     refine⟨fun _ _=>trivial,?_⟩
     show o.uponIn (fw none) 0 P a K Q ((o.semAt none a.eval).run P w)
     rw[hrun,Oper.uponIn_defer]
     exact hk ρ { a with defers:=_::a.defers} w (Post.refl hW) (ht.defer hN hdo h1 h2) trivial
    split at h
    ·rename_i ds hds
     simp only[Option.some.injEq,Prod.mk.injEq] at h
     have ho:=ht.ok N
     rw[hds] at ho
     exact fin ds (by rw[hds];rfl) ho h.1.symm h.2.1.symm h.2.2.symm
    ·rename_i hds
     simp only[Option.some.injEq,Prod.mk.injEq] at h
     exact fin [] (by rw[hds];rfl) trivial h.1.symm h.2.1.symm h.2.2.symm
    ·cases h
  ·cases h
 ·cases h
 ·rename_i f args ats hop
  split at h
  ·rename_i b hf
   obtain⟨r,hr,h2⟩:=Option.map_eq_some_iff.1 h
   simp only[Prod.mk.injEq] at h2
   obtain⟨rfl,rfl,rfl⟩:=h2
   obtain⟨_,hy⟩:=hY b _ W r.1 r.2 hr
   have hargs:oks W.nx (args.toList.map (ev t)):=(bO _ _).2 fun v hv=>by
    obtain⟨x,_,rfl⟩:=List.mem_map.1 hv
    exact ht.fu x
   obtain⟨fl,tmps,asqz,bd,h1,h2⟩:=hy w0 ρ w hargs hW
   have hd:∀c,o.op≠ .defer c:=fun c e=>by rw[hop] at e;cases e
   refine⟨fun _ _=>trivial,?_⟩
   rw[Oper.semAt_eq _ _ _ hd]
   have hrun:(execOp a.eval o).run P w= .ok (.round (ρ.blk b) fl tmps asqz bd) w:=by
    obtain⟨dst,op,type,pos,after,guard⟩:=o
    dsimp only at hop
    subst hop
    have e1:(#[]++Array.map a.eval args)=(aG ρ (args.toList.map (ev t))).toArray:=by
     apply Array.ext'
     simp[bA,ht.eval]
    simp only[execOp,resolve,ht.eval,hf,cv,Deferred.ofValue,Sem.run_bind,Sem.run_pure,Result.andThen_ok,invoke]
    have e2:(#[]++Array.map (fun x=>cv ρ (ev t x)) args)=(aG ρ (args.toList.map (ev t))).toArray:=by
     apply Array.ext'
     simp[bA]
    first
     |rw[e1,h1]
     |rw[e2,h1]
     |(simp only[ht.eval] at *;rw[e2,h1])
   rw[hrun,Oper.uponIn_round]
   refine⟨fun h=>(by cases h),RoundIn.mono (show RoundIn (fw (ro.map ρ.blk)) 0 P (ρ.blk b) fl tmps asqz bd w _ from h2) ?_⟩
   rintro e w' ⟨ρ',rfl,h3,h4⟩
   exact hk ρ' a w' h3 (ht.mono h3.ext h3.nx) h4
  ·exact plain (fun c e=>by rw[hop] at e;cases e) h
 ·rename_i aAO axC aAN
  exact plain (fun c e=>axC c e) h
section
variable {P:Program} {T:bG} {call ext:ag} {yl:eQ}
theorem Dj (hT:aW P T)(hC:ah P call)(hX:dK P ext)(hY:eP P yl){w0:World}{ro:Option Nat}{N:Nat}(ops:Array Oper){Q:Exit→Act→World→Prop}{tf:TT}{Wf:AW}:∀(l:List Oper) {t:TT} {W:AW} {ρ:Env} {a:Act} {w:World},
 (∀b,ro=some b→b < W.nx)→UC P T call ext yl ro N ops.toList l t W=some (tf,Wf)→aR ρ W.nx N t a→aO w0 ρ W w→
 (∀ρ' a' w',Post w0 ρ W w ρ' Wf w'→aR ρ' Wf.nx N tf a'→Q .normal a' w')→wpListIn (fw (ro.map ρ.blk)) 0 P ops Q l a w
 |[],t,W,ρ,a,w,_,h,ht,hW,hQ=>by
  simp only[UC,Option.some.injEq,Prod.mk.injEq] at h
  obtain⟨rfl,rfl⟩:=h
  exact hQ ρ a w (Post.refl hW) ht
 |o::rest,t,W,ρ,a,w,hr,h,ht,hW,hQ=>by
  simp only[UC] at h
  cases hd:kT N o.dst with
  |false=>rw[hd] at h;cases h
  |true=>
  rw[hd] at h
  simp only[cond_true] at h
  unfold wpListIn
  rw[eZ ht]
  cases hw:fe N t ops.toList o with
  |true=>
   rw[hw] at h
   simp only[cond_true] at h
   rw[if_pos rfl]
   split at h
   ·rename_i v t' W' hv
    refine XP hT hC hX hY (XN hv) ht hW fun ρ' a' w' hp ht' ve=>?_
    have:=Dj hT hC hX hY ops rest (fun b hb=>zq (hr b hb) hp.nx) h (ht'.put hd ve) hp.rep fun pz a'' w'' hp' abR=>hQ pz a'' w'' (hp.trans hp') abR
    rwa [LD hp.ext hr] at this
   ·cases h
  |false=>
   rw[hw] at h
   simp only[cond_false] at h
   rw[if_neg (by simp)]
   exact⟨fun _ _=>trivial,Dj hT hC hX hY ops rest hr h (ht.put (v:=.tuple []) hd trivial) hW hQ⟩
end
inductive AX where
 |normal
 |exit (id:Nat)
 |ret
def AX.JN:AX→Exit
 | .normal=>.normal
 | .exit id=>.exit id
 | .ret=>.ret
abbrev ahN:=Option (AX×TT×AW)
abbrev Cj:=Code→TT→AW→ahN
abbrev nW:=List Oper→TT→AW→Option (TT×AW)
def Rw:LoopState→Bool
 | .busy=>false
 |_=>true
def acE (t:TT)(b:Nat)(W:AW):ahN:=
 match au b W.bl with
 |some (.loop st pend N t' ps asqz bd)=>cond (Rw st) (match pend with
   |none=>some (.normal,t,⟨W.nx,gF b (.loop .exhausted pend N t' ps asqz bd) W.bl,addN b W.az,W.gl⟩)
   |some .ret=>some (.ret,t,⟨W.nx,gF b (.loop .exhausted pend N t' ps asqz bd) W.bl,addN b W.az,W.gl⟩)
   |some (.exit id)=>some (.exit id,t,⟨W.nx,gF b (.loop .exhausted pend N t' ps asqz bd) W.bl,addN b W.az,W.gl⟩)
   |_=>none) none
 |_=>none
def abm (N b:Nat)(t:TT):Option TT:=
 cond (Nat.blt N 1048575) (match dP N t with
  | .rA ds=>some (TT.put 20 t N (.rA (.ptr b 0::ds)))
  | .tuple []=>some (TT.put 20 t N (.rA [.ptr b 0]))
  |_=>none) none
def LK (call:ag)(ro:Option Nat)(N:Nat)(f:Operand)(ps:Array Tmp)(asqz bd:Code)(t:TT)(W:AW):ahN:=
 match ev t f with
 | .fn (.func g) l c=>match ro with
   |none=>match abm N W.nx t with
    |some t'=>match call g (l++[.ug (W.nx+1)]++c) ((W.push .Sa).push (.loop .ready none N t ps asqz bd)) with
     |some (_,W')=>acE t' (W.nx+1) W'
     |none=>none
    |none=>none
   |some b0=>match au b0 W.bl with
    |some (.loop ..)=>match call g (l++[.ug W.nx]++c) (W.push (.loop .ready none N t ps asqz bd)) with
     |some (_,W')=>acE t W.nx W'
     |none=>none
    |_=>none
 |_=>none
def fI (P:Program)(T:bG)(call ext:ag)(yl:eQ)(draw:nW)(loop:Cj)(ro:Option Nat)(N:Nat):Code→TT→AW→ahN
 | .skip,t,W=>some (.normal,t,W)
 | .region _ ops d,t,W=>match (cond d (draw ops.toList t W) (UC P T call ext yl ro N ops.toList ops.toList t W)) with
   |some (t',W')=>some (.normal,t',W')
   |none=>none
 | .seq x y,t,W=>match fI P T call ext yl draw loop ro N x t W with
   |some (.normal,t',W')=>fI P T call ext yl draw loop ro N y t' W'
   |r=>r
 | .cond c x y,t,W=>match ev t c with
   | .bool true=>fI P T call ext yl draw loop ro N x t W
   | .bool false=>fI P T call ext yl draw loop ro N y t W
   |_=>none
 | .block id c,t,W=>match fI P T call ext yl draw loop ro N c t W with
   |some (.exit j,t',W')=>cond (Nat.beq j id) (some (.normal,t',W')) (some (.exit j,t',W'))
   |r=>r
 | .loop c,t,W=>loop c t W
 | .exit id,t,W=>some (.exit id,t,W)
 | .ret,t,W=>some (.ret,t,W)
 | .rangeFunc f ps asqz bd,t,W=>LK call ro N f ps asqz bd t W
 |_,_,_=>none
def tZ (P:Program)(N:Nat)(ro:Option Nat)(c:Code)(t:TT)(W:AW)(x:AX)(tf:TT)(Wf:AW):Prop:=
 ∀w0 ρ a w (Q:Exit→Act→World→Prop),(∀b,ro=some b→b < W.nx)→aR ρ W.nx N t a→aO w0 ρ W w→(∀ρ' a' w',Post w0 ρ W w ρ' Wf w'→aR ρ' Wf.nx N tf a'→Q x.JN a' w')→c.wpIn (fw (ro.map ρ.blk)) 0 P Q a w
def aeA (P:Program)(N:Nat)(ro:Option Nat)(loop:Cj):Prop:=∀c t W x tf Wf,loop c t W=some (x,tf,Wf)→tZ P N ro (.loop c) t W x tf Wf
def EJ (P:Program)(N:Nat)(draw:nW):Prop:=∀ro id (ops:Array Oper) t W tf Wf,draw ops.toList t W=some (tf,Wf)→tZ P N ro (.region id ops true) t W .normal tf Wf
theorem ab6 (w:World)(r:Nat)(o:Obj):Gr w (w.putObj r o) (fun i=>r=i):=⟨rfl,rfl,rfl,by simp,fun i _ hi=>World.putObj_heap_other (Ne.symm hi)⟩
theorem aO.obj {w0:World}{ρ:Env}{W:AW}{w:World}(h:aO w0 ρ W w){k:aF}{o:Obj}(hk:k.ok W.nx)(hr:k.rep (ρ.up W.nx w.heap.size 0) (w.alloc o) W.nx):
 Post w0 ρ W w (ρ.up W.nx w.heap.size 0) (W.push k) (w.alloc o):=h.new (jJ w _) (zu _) (by simp) hk hr
theorem aO.loop {w0:World}{ρ:Env}{W:AW}{w:World}(h:aO w0 ρ W w){b:Nat}{st:LoopState}{pend:Option Code}{N:Nat}{t:TT}{ps:Array Tmp}{asqz bd:Code}(hb:au b W.bl=some (.loop st pend N t ps asqz bd)){r:Loop}(hr:w.heap[ρ.blk b]? =some (.loop r))(st':LoopState)(aid:Option Code):
 Post w0 ρ W w ρ ⟨W.nx,gF b (.loop st' aid N t ps asqz bd) W.bl,addN b W.az,W.gl⟩ (w.putObj (ρ.blk b) (.loop { r with state:=st',pending:=aid})):=by
 obtain⟨p1,p2,p3,p4⟩:=h.ok b _ hb
 obtain⟨r',q1,q2,q3,q4,q5,q6,q7,q8⟩:=h.rep b _ hb
 rw[hr] at q1
 obtain rfl:r=r':=by injection (zx q1)
 exact h.write hb (ab6 w _ _) p2 ⟨_,World.putObj_heap_same p4,rfl,rfl,q4,q5,q6,q7,q8⟩
theorem VB {P:Program}{t tf:TT}{b:Nat}{W Wf:AW}{x:AX}(h:acE t b W=some (x,tf,Wf)){w0:World}{ρ:Env}{w:World}(hW:aO w0 ρ W w):
 tf=t∧∃jump w',(Instr.endLoop (ρ.blk b)).run P w= .ok jump w'∧Post w0 ρ W w ρ Wf w'∧((jump=none∧x= .normal)∨(jump=some .ret∧x= .ret)∨∃id,jump=some (.exit id)∧x= .exit id):=by
 unfold acE at h
 split at h
 case h_2=>cases h
 case h_1 st pend N t' ps asqz bd hb=>
 obtain⟨r,q1,q2,q3,q4⟩:=hW.rep b _ hb
 have main:st≠ .busy→Wf=⟨W.nx,gF b (.loop .exhausted pend N t' ps asqz bd) W.bl,addN b W.az,W.gl⟩→∃w',(Instr.endLoop (ρ.blk b)).run P w= .ok pend w'∧Post w0 ρ W w ρ Wf w':=fun hst e=>by
  subst e
  have hend:=run_endLoop (P:=P) q1 (by rw[q2];exact hst)
  rw[q3] at hend
  exact⟨_,hend,hW.loop hb q1 .exhausted pend⟩
 cases hst:Rw st with
 |false=>rw[hst] at h;cases h
 |true=>
  rw[hst] at h
  simp only[cond_true] at h
  have hst:st≠ .busy:=fun e=>by rw[e] at hst;cases hst
  split at h
  ·simp only[Option.some.injEq,Prod.mk.injEq] at h
   obtain⟨w',h1,h2⟩:=main hst h.2.2.symm
   exact⟨h.2.1.symm,_,w',h1,h2,.inl ⟨rfl,h.1.symm⟩⟩
  ·simp only[Option.some.injEq,Prod.mk.injEq] at h
   obtain⟨w',h1,h2⟩:=main hst h.2.2.symm
   exact⟨h.2.1.symm,_,w',h1,h2,.inr (.inl ⟨rfl,h.1.symm⟩)⟩
  ·simp only[Option.some.injEq,Prod.mk.injEq] at h
   obtain⟨w',h1,h2⟩:=main hst h.2.2.symm
   exact⟨h.2.1.symm,_,w',h1,h2,.inr (.inr ⟨_,rfl,h.1.symm⟩)⟩
  ·cases h
theorem UW {ρ:Env}{n N:Nat}{t t':TT}{a:Act}{b:Nat}(h:aR ρ n N t a)(hm:abm N b t=some t')(hb:b < n):aR ρ n N t' { a with defers:={ target:=.collected (ρ.blk b),args:=#[]}::a.defers}:=by
 unfold abm at hm
 cases hN:Nat.blt N 1048575 with
 |false=>rw[hN] at hm;cases hm
 |true=>
  rw[hN] at hm
  simp only[cond_true] at hm
  have ho:=h.ok N
  split at hm
  ·rename_i ds hds
   obtain rfl:=zx hm
   rw[hds] at ho
   exact h.defer (aT hN) (d:=.ptr b 0) hb (by rw[hds];rfl) ho
  ·rename_i hds
   obtain rfl:=zx hm
   exact h.defer (aT hN) (d:=.ptr b 0) (ds:=[]) hb (by rw[hds];rfl) trivial
  ·cases hm
theorem Bc {P:Program}{ρ ρ':Env}{n N:Nat}{t:TT}{a:Act}(ht:aR ρ n N t a)(he:Ext n ρ ρ'){f:Operand}{g:Nat}{l c:List AV}(hf:ev t f= .fn (.func g) l c)(b:Nat){fn:Func}(q1:P.funcs[g]? =some fn)(q2:(fn.name == "runtime.NumGoroutine")=false)(q3:fn.body.isSome=true)(w:World):
 ∃d,(resolve a.eval (rangeCall f (ρ'.blk b)) 0).run P w= .ok d w∧(invoke d.target d.args).run P w= .ok (.enter g (aG ρ' (l++[.ug b]++c)).toArray) w:=by
 have hfo:=ht.fu f
 rw[hf] at hfo
 have hb:fn.body.isNone=false:=by cases hq:fn.body <;> simp_all
 have e1:(aG ρ l).toArray++ #[Value.func (.yield (ρ'.blk b)) #[] #[]]++(aG ρ c).toArray=(aG ρ' (l++[.ug b]++c)).toArray:=by
  apply Array.ext'
  rw[← cu he l hfo.1,← cu he c hfo.2]
  simp[bA,cv]
 have e2:a.eval (.const (.func (.yield (ρ'.blk b)) #[] #[]))=Value.func (.yield (ρ'.blk b)) #[] #[]:=rfl
 refine⟨{ target:=.fn (.func g) (aG ρ c).toArray,args:=(aG ρ l).toArray++ #[Value.func (.yield (ρ'.blk b)) #[] #[]]},?_,?_⟩
 ·simp only[resolve,ht.eval f,hf,cv,Deferred.ofValue]
  simp[e2]
 ·simp only[invoke,callFunc,Sem.run_bind,Sem.run_pure,Result.andThen_ok,run_program,q1,q2,hb,Bool.false_eq_true,if_false,e1]
theorem JX {P:Program}{w:World}{l₀:Nat}{r₀:Loop}(h:w.heap[l₀]? =some (.loop r₀))(fn:FuncId)(tmps:Array Value)(ps:Array Tmp)(assign body:Code):
 (Instr.enterLoop fn tmps ps assign body (some l₀)).run P w= .ok (w.heap.size,[]) (w.alloc (.loop { state:=.ready,pending:=none,fn,tmps,params:=ps,assign,body,defers:=r₀.defers})):=by
 unfold Instr.enterLoop
 simp only[Sem.run_bind,run_getLoop h,Result.andThen,Sem.run_pure,run_newObj_alloc]
section
variable {P:Program} {call:ag}
theorem Ut (hC:ah P call){ro:Option Nat}{N:Nat}{f:Operand}{ps:Array Tmp}{asqz bd:Code}{t:TT}{W:AW}{x:AX}{tf:TT}{Wf:AW}(h:LK call ro N f ps asqz bd t W=some (x,tf,Wf)):
 tZ P N ro (.rangeFunc f ps asqz bd) t W x tf Wf:=fun w0 ρ a w Q hro ht hW hQ=>by
 unfold LK at h
 split at h
 case h_2=>cases h
 case h_1 g l c hf=>
 have hfo:=ht.fu f
 rw[hf] at hfo
 have fin:∀(ro':Option Nat) (b:Nat) (dM:Env) (W2:AW) (w2:World) (a2:Act) (t2:TT) (v:AV) (W':AW),acE t2 b W'=some (x,tf,Wf)→Post w0 ρ W w dM W2 w2→b < W2.nx→aR dM W2.nx N t2 a2→
  Calls P g (aG dM (l++[.ug b]++c)).toArray w2 (fun e w'=>∃ρ',e= .returned (cv ρ' v)∧Post w0 dM W2 w2 ρ' W' w'∧v.ok W'.nx)→
  CallsIn (fw ro') (0 - 1) P g (aG dM (l++[.ug b]++c)).toArray w2 (rangePost (fw ro') 0 P (dM.blk b) Q a2):=fun ro' b dM W2 w2 a2 t2 v W' he hp2 hb ht2 hcall=>xO (hcall.mono (by
  rintro e w' ⟨zk,rfl,hp3,_⟩
  obtain⟨rfl,jump,w4,h1,h2,h3⟩:=VB (P:=P) he hp3.rep
  rw[hp3.ext.blk b hb] at h1
  refine⟨jump,w4,h1,?_⟩
  have hp:=(hp2.trans hp3).trans h2
  have hq:=hQ zk a2 w4 hp (ht2.mono (hp3.ext.trans h2.ext hp3.nx) (zt hp3.nx h2.nx))
  rcases h3 with⟨rfl,rfl⟩ | ⟨rfl,rfl⟩ | ⟨id,rfl,rfl⟩
  ·exact hq
  ·exact wpIn_ret hq
  ·exact wpIn_exit hq))
 split at h
 ·
  split at h
  case h_2=>cases h
  case h_1 t' ht'=>
  split at h
  case h_2=>cases h
  case h_1 v W' hcall=>
  obtain⟨⟨fn,q1,q2,q3⟩,_,hc⟩:=hC _ _ _ _ _ hcall
  refine wpIn_rangeFunc fun fn' _=>?_
  have p1:Post w0 ρ W w (ρ.up W.nx w.heap.size 0) (W.push .Sa) (w.alloc (.deferred (some []))):=hW.obj trivial (by
   show _=_
   rw[Env.aP];exact World.alloc_heap_new w _)
  have hsz:(w.alloc (.deferred (some []))).heap.size=w.heap.size+1:=World.size_alloc _ _
  have p2:Post w0 (ρ.up W.nx w.heap.size 0) (W.push .Sa) (w.alloc (.deferred (some []))) ((ρ.up W.nx w.heap.size 0).up (W.nx+1) (w.alloc (.deferred (some []))).heap.size 0) ((W.push .Sa).push (.loop .ready none N t ps asqz bd)) ((w.alloc (.deferred (some []))).alloc (.loop { state:=.ready,pending:=none,fn:=fn',tmps:=a.tmps,params:=ps,assign:=asqz,body:=bd,defers:=w.heap.size})):=p1.rep.obj (fun i=>AV.ok.mono (Nat.le_succ _) _ (ht.ok i)) (by
   refine⟨{ state:=.ready,pending:=none,fn:=fn',tmps:=a.tmps,params:=ps,assign:=asqz,body:=bd,defers:=w.heap.size},?_,rfl,rfl,ht.size,fun i=>?_,rfl,rfl,rfl⟩
   ·have e:(W.push .Sa).nx=W.nx+1:=rfl
    rw[e,Env.aP];exact World.alloc_heap_new _ _
   ·have e1:=iA (Env.fM ρ W.nx w.heap.size 0) _ (ht.ok i)
    have e2:=iA (Env.fM (ρ.up W.nx w.heap.size 0) (W.nx+1) (w.alloc (.deferred (some []))).heap.size 0) _ (AV.ok.mono (Nat.le_succ _) _ (ht.ok i))
    show a.tmps.getD i undef=_
    rw[ht.get i]
    exact (e2.trans e1).symm)
  have hp:=p1.trans p2
  have hbk:((ρ.up W.nx w.heap.size 0).up (W.nx+1) (w.alloc (.deferred (some []))).heap.size 0).blk (W.nx+1)=w.heap.size+1:=by rw[Env.aP,hsz]
  have hbd:((ρ.up W.nx w.heap.size 0).up (W.nx+1) (w.alloc (.deferred (some []))).heap.size 0).blk W.nx=w.heap.size:=by
   rw[(Env.fM _ (W.nx+1) _ _).blk W.nx (Nat.lt_succ_self _),Env.aP]
  obtain⟨d,hd1,hd2⟩:=Bc (P:=P) ht hp.ext hf (W.nx+1) q1 q2 q3 ((w.alloc (.deferred (some []))).alloc (.loop { state:=.ready,pending:=none,fn:=fn',tmps:=a.tmps,params:=ps,assign:=asqz,body:=bd,defers:=w.heap.size}))
  have hargs:oks ((W.push .Sa).push (.loop .ready none N t ps asqz bd)).nx (l++[.ug (W.nx+1)]++c):=bg (bg (oks.mono hp.nx _ hfo.1) ⟨Nat.lt_succ_self _,trivial⟩) (oks.mono hp.nx _ hfo.2)
  have ht2:aR ((ρ.up W.nx w.heap.size 0).up (W.nx+1) (w.alloc (.deferred (some []))).heap.size 0) ((W.push .Sa).push (.loop .ready none N t ps asqz bd)).nx N t' { a with defers:=[{ target:=.collected w.heap.size,args:=#[]}]++a.defers}:=by
   have:=UW (ht.mono hp.ext hp.nx) ht' (show W.nx < W.nx+1+1 by omega)
   rw[hbd] at this
   exact this
  refine⟨w.heap.size+1,[{ target:=.collected w.heap.size,args:=#[]}],_,d,_,g,_,_,run_enterLoop_outer fn' a.tmps ps asqz bd,hbk ▸ hd1,fun _ _=>trivial,hd2,fun h=>(by cases h),?_⟩
  rw[← hbk]
  exact fin none (W.nx+1) _ _ _ _ _ v W' h hp (Nat.lt_succ_self _) ht2 (hc w0 _ _ hargs hp.rep)
 ·
  rename_i b0
  split at h
  case h_2=>cases h
  case h_1 st0 pd0 N0 t0 ps0 as0 bd0 hb0=>
  split at h
  case h_2=>cases h
  case h_1 v W' hcall=>
  obtain⟨⟨fn,q1,q2,q3⟩,_,hc⟩:=hC _ _ _ _ _ hcall
  obtain⟨r0,hr0,_⟩:=hW.rep b0 _ hb0
  refine wpIn_rangeFunc fun fn' _=>?_
  have hp:Post w0 ρ W w (ρ.up W.nx w.heap.size 0) (W.push (.loop .ready none N t ps asqz bd)) (w.alloc (.loop { state:=.ready,pending:=none,fn:=fn',tmps:=a.tmps,params:=ps,assign:=asqz,body:=bd,defers:=r0.defers})):=hW.obj (fun i=>ht.ok i) (by
   refine⟨{ state:=.ready,pending:=none,fn:=fn',tmps:=a.tmps,params:=ps,assign:=asqz,body:=bd,defers:=r0.defers},?_,rfl,rfl,ht.size,fun i=>?_,rfl,rfl,rfl⟩
   ·rw[Env.aP];exact World.alloc_heap_new _ _
   ·show a.tmps.getD i undef=_
    rw[ht.get i]
    exact (iA (Env.fM ρ W.nx w.heap.size 0) _ (ht.ok i)).symm)
  have hbk:(ρ.up W.nx w.heap.size 0).blk W.nx=w.heap.size:=Env.aP _ _ _ _
  obtain⟨d,hd1,hd2⟩:=Bc (P:=P) ht hp.ext hf W.nx q1 q2 q3 (w.alloc (.loop { state:=.ready,pending:=none,fn:=fn',tmps:=a.tmps,params:=ps,assign:=asqz,body:=bd,defers:=r0.defers}))
  have hargs:oks (W.push (.loop .ready none N t ps asqz bd)).nx (l++[.ug W.nx]++c):=bg (bg (oks.mono hp.nx _ hfo.1) ⟨Nat.lt_succ_self _,trivial⟩) (oks.mono hp.nx _ hfo.2)
  refine⟨w.heap.size,[],_,d,_,g,_,_,JX hr0 fn' a.tmps ps asqz bd,hbk ▸ hd1,fun _ _=>trivial,hd2,fun h=>(by cases h),?_⟩
  have:=fin (some (ρ.blk b0)) W.nx _ _ _ _ _ v W' h hp (Nat.lt_succ_self _) (ht.mono hp.ext hp.nx) (hc w0 _ _ hargs hp.rep)
  rw[hbk] at this
  exact this
end
section
variable {P:Program} {T:bG} {call ext:ag} {yl:eQ} {draw:nW} {loop:Cj} {ro:Option Nat} {N:Nat}
theorem tZ.next {c:Code}{t':TT}{W W':AW}{x:AX}{tf:TT}{Wf:AW}(h:tZ P N ro c t' W' x tf Wf){w0:World}{ρ ρ':Env}{w w':World}{a':Act}{Q:Exit→Act→World→Prop}(hro:∀b,ro=some b→b < W.nx)(hp:Post w0 ρ W w ρ' W' w')(ht':aR ρ' W'.nx N t' a')
 (hQ:∀ρ' a' w',Post w0 ρ W w ρ' Wf w'→aR ρ' Wf.nx N tf a'→Q x.JN a' w'):c.wpIn (fw (ro.map ρ.blk)) 0 P Q a' w':=by
 have:=h w0 ρ' a' w' Q (fun b hb=>zq (hro b hb) hp.nx) ht' hp.rep fun pz a'' w'' hp' abR=>hQ pz a'' w'' (hp.trans hp') abR
 rwa [LD hp.ext hro] at this
theorem eO (hT:aW P T)(hC:ah P call)(hX:dK P ext)(hY:eP P yl)(hD:EJ P N draw)(hL:aeA P N ro loop):∀(c:Code) (t:TT) (W:AW) (x:AX) (tf:TT) (Wf:AW),fI P T call ext yl draw loop ro N c t W=some (x,tf,Wf)→tZ P N ro c t W x tf Wf
 | .skip,t,W,x,tf,Wf,h=>fun w0 ρ a w Q hro ht hW hQ=>by
   simp only[fI,Option.some.injEq,Prod.mk.injEq] at h
   obtain⟨rfl,rfl,rfl⟩:=h
   exact wpIn_skip (hQ ρ a w (Post.refl hW) ht)
 | .region id ops d,t,W,x,tf,Wf,h=>fun w0 ρ a w Q hro ht hW hQ=>by
   simp only[fI] at h
   split at h
   ·rename_i t' W' hr
    simp only[Option.some.injEq,Prod.mk.injEq] at h
    obtain⟨rfl,rfl,rfl⟩:=h
    cases d with
    |true=>exact hD ro id ops t W _ _ hr w0 ρ a w Q hro ht hW hQ
    |false=>exact wpIn_region_list (Dj hT hC hX hY ops ops.toList hro hr ht hW hQ)
   ·cases h
 | .seq c d,t,W,x,tf,Wf,h=>fun w0 ρ a w Q hro ht hW hQ=>by
   simp only[fI] at h
   split at h
   ·rename_i t' W' hr
    refine wpIn_seq (eO hT hC hX hY hD hL c t W _ _ _ hr w0 ρ a w _ hro ht hW fun ρ' a' w' hp ht'=>?_)
    exact (eO hT hC hX hY hD hL d t' W' _ _ _ h).next hro hp ht' hQ
   ·rename_i hn
    refine wpIn_seq (eO hT hC hX hY hD hL c t W _ _ _ h w0 ρ a w _ hro ht hW fun ρ' a' w' hp ht'=>?_)
    cases x with
    |normal=>exact (hn _ _ h).elim
    |exit id=>exact hQ ρ' a' w' hp ht'
    |ret=>exact hQ ρ' a' w' hp ht'
 | .cond b c d,t,W,x,tf,Wf,h=>fun w0 ρ a w Q hro ht hW hQ=>by
   simp only[fI] at h
   have he:=ht.eval b
   split at h
   ·rename_i hb
    rw[hb] at he
    exact wpIn_cond_true he (eO hT hC hX hY hD hL c t W _ _ _ h w0 ρ a w Q hro ht hW hQ)
   ·rename_i hb
    rw[hb] at he
    exact wpIn_cond_false he (eO hT hC hX hY hD hL d t W _ _ _ h w0 ρ a w Q hro ht hW hQ)
   ·cases h
 | .block id c,t,W,x,tf,Wf,h=>fun w0 ρ a w Q hro ht hW hQ=>by
   simp only[fI] at h
   split at h
   ·rename_i j t' W' hr
    refine wpIn_block (eO hT hC hX hY hD hL c t W _ _ _ hr w0 ρ a w _ hro ht hW fun ρ' a' w' hp ht'=>?_)
    cases hj:Nat.beq j id with
    |true=>
     rw[hj] at h
     simp only[cond_true,Option.some.injEq,Prod.mk.injEq] at h
     obtain⟨rfl,rfl,rfl⟩:=h
     have hj:=(beq_iff _ _).1 hj
     simp only[AX.JN,Exit.inBlock,hj,if_true]
     exact hQ ρ' a' w' hp ht'
    |false=>
     rw[hj] at h
     simp only[cond_false,Option.some.injEq,Prod.mk.injEq] at h
     obtain⟨rfl,rfl,rfl⟩:=h
     have hj':¬j=id:=fun e=>by rw[(beq_iff _ _).2 e] at hj;cases hj
     simp only[AX.JN,Exit.inBlock,hj',if_false]
     exact hQ ρ' a' w' hp ht'
   ·rename_i hn
    refine wpIn_block (eO hT hC hX hY hD hL c t W _ _ _ h w0 ρ a w _ hro ht hW fun ρ' a' w' hp ht'=>?_)
    cases x with
    |normal=>exact hQ ρ' a' w' hp ht'
    |exit j=>exact (hn _ _ _ h).elim
    |ret=>exact hQ ρ' a' w' hp ht'
 | .loop c,t,W,x,tf,Wf,h=>by
   simp only[fI] at h
   exact hL c t W x tf Wf h
 | .exit id,t,W,x,tf,Wf,h=>fun w0 ρ a w Q hro ht hW hQ=>by
   simp only[fI,Option.some.injEq,Prod.mk.injEq] at h
   obtain⟨rfl,rfl,rfl⟩:=h
   exact wpIn_exit (hQ ρ a w (Post.refl hW) ht)
 | .ret,t,W,x,tf,Wf,h=>fun w0 ρ a w Q hro ht hW hQ=>by
   simp only[fI,Option.some.injEq,Prod.mk.injEq] at h
   obtain⟨rfl,rfl,rfl⟩:=h
   exact wpIn_ret (hQ ρ a w (Post.refl hW) ht)
 | .rangeFunc f ps asqz bd,t,W,x,tf,Wf,h=>by
   simp only[fI] at h
   exact Ut hC h
 | .scope _,t,W,x,tf,Wf,h=>by simp[fI] at h
 | .label _,t,W,x,tf,Wf,h=>by simp[fI] at h
 | .goto _,t,W,x,tf,Wf,h=>by simp[fI] at h
 | .refuse _,t,W,x,tf,Wf,h=>by simp[fI] at h
end
def IP:Nat→List AV→TT→TT
 |_,[],t=>t
 |k,v::l,t=>IP (k+1) l (TT.put 20 t k v)
theorem Ak:∀(l:List AV) (k:Nat) (t:TT) (i:Nat),k+l.length≤1048575→dP i (IP k l t)=if k≤i∧i < k+l.length then (match l[i - k]? with | some v=>v | none=>.tuple []) else dP i t
 |[],k,t,i,_=>by
  have:¬(k≤i∧i < k+([]:List AV).length):=by simp
  rw[if_neg this];rfl
 |v::l,k,t,i,h=>by
  have hl:(v::l).length=l.length+1:=rfl
  rw[hl] at h
  simp only[IP]
  rw[Ak l (k+1) _ i (by omega),kF (by omega)]
  by_cases h1:k=i
  ·subst h1
   rw[if_neg (by omega),if_pos rfl,if_pos (by rw[hl];omega)]
   simp
  ·rw[if_neg h1]
   by_cases h2:k+1≤i∧i < k+1+l.length
   ·rw[if_pos h2,if_pos (by rw[hl];omega)]
    rw[show i - k=(i - (k+1))+1 by omega,List.getElem?_cons_succ]
   ·rw[if_neg h2,if_neg (by rw[hl];omega)]
theorem aR.start {ρ:Env}{n m:Nat}{args:List AV}(h:oks n args)(hl:args.length≤1000):aR ρ n (args.length+m) (IP 0 args .nil) { tmps:=(aG ρ args).toArray++Array.replicate m undef,defers:=[]}:=by
 have e:∀i,dP i (IP 0 args .nil)=match args[i]? with | some v=>v | none=>.tuple []:=fun i=>by
  rw[Ak args 0 .nil i (by omega)]
  by_cases hi:i < args.length
  ·rw[if_pos (by omega)];rfl
  ·rw[if_neg (by omega),List.getElem?_eq_none (by omega)];rfl
 refine⟨by simp[ak],fun i=>?_,fun i=>?_,?_⟩
 ·rw[e]
  simp only[Array.getD_eq_getD_getElem?]
  by_cases hi:i < args.length
  ·rw[Array.getElem?_append_left (by simp[ak];exact hi)]
   simp[j4,List.getElem?_eq_getElem hi]
  ·rw[Array.getElem?_append_right (by simp[ak];omega),List.getElem?_eq_none (by omega)]
   simp only[List.size_toArray,ak,Array.getElem?_replicate]
   split <;> rfl
 ·rw[e]
  split
  ·rename_i v hv
   exact vG h hv
  ·trivial
 ·rw[e,List.getElem?_eq_none (by omega)]
  rfl
def lL (T:bG)(bl:List (Nat×aF))(t:TT):ResultVar→Option AV
 | .tmp i=>some (dP i t)
 | .cell p ty=>qQ T bl ty (dP p t)
def Db (tmps:Array Value):ResultVar→Sem Value
 | .tmp t=>pure (tmps.getD t undef)
 | .cell a t=>do loadVar t (← asAddr (tmps.getD a undef))
theorem iE {P:Program}{T:bG}(hT:aW P T){w0:World}{ρ:Env}{W:AW}{w:World}(hW:aO w0 ρ W w){N:Nat}{t:TT}{a:Act}(ht:aR ρ W.nx N t a){r:ResultVar}{v:AV}(h:lL T W.bl t r=some v):
 (Db a.tmps r).run P w= .ok (cv ρ v) w∧v.ok W.nx:=by
 cases r with
 |tmp i=>
  obtain rfl:=zx h
  exact⟨by simp[Db,ht.get],ht.ok i⟩
 |cell p ty=>
  have hr:∀b k,au b W.bl=some k→k.ok W.nx∧k.rep ρ w b:=fun b k hb=>⟨(hW.ok b k hb).2.1,hW.rep b k hb⟩
  obtain⟨h1,h2⟩:=oF hT (fun b _ _ k=>hr b k) (show qQ T W.bl ty (dP p t)=some v from h)
  refine⟨?_,h2⟩
  have hg:=ht.get p
  simp only[lL] at h
  unfold qQ at h
  split at h
  ·rename_i b o hp
   rw[hp] at h1 hg
   simp only[cv] at h1 hg
   simp only[Db,hg,asAddr,Sem.run_bind,Sem.run_pure,Result.andThen_ok]
   simpa [Instr.loadAt,Instr.sureAddr] using h1
  ·cases h
def Zj (T:bG)(bl:List (Nat×aF))(t:TT):List ResultVar→Option AV
 |[]=>some (.tuple [])
 |[r]=>lL T bl t r
 |[r,s]=>match lL T bl t r,lL T bl t s with
  |some x,some y=>some (.tuple [x,y])
  |_,_=>none
 |[r,s,q]=>match lL T bl t r,lL T bl t s,lL T bl t q with
  |some x,some y,some z=>some (.tuple [x,y,z])
  |_,_,_=>none
 |_=>none
theorem LJ (fn:Func)(tmps:Array Value):results fn tmps=(do let vs ← fn.results.mapM (Db tmps);pure (if h:vs.size=1 then vs[0] else .tuple vs)):=by
 unfold results
 congr 1
theorem FI {P:Program}{T:bG}(hT:aW P T){w0:World}{ρ:Env}{W:AW}{w:World}(hW:aO w0 ρ W w){N:Nat}{t:TT}{a:Act}(ht:aR ρ W.nx N t a){fn:Func}{v:AV}(h:Zj T W.bl t fn.results.toList=some v):
 (results fn a.tmps).run P w= .ok (cv ρ v) w∧v.ok W.nx:=by
 rw[LJ]
 rcases hq:fn.results with⟨l⟩
 rw[hq] at h
 dsimp only at h
 match l,h with
 |[],h=>
  obtain rfl:=zx h
  exact⟨by simp[cv,aG],trivial⟩
 |[r],h=>
  obtain⟨h1,h2⟩:=iE hT hW ht (show lL T W.bl t r=some v from h)
  exact⟨by simp[h1],h2⟩
 |[r,s],h=>
  simp only[Zj] at h
  split at h
  ·rename_i x y hx hy
   obtain rfl:=zx h
   obtain⟨h1,h2⟩:=iE hT hW ht hx
   obtain⟨h3,h4⟩:=iE hT hW ht hy
   exact⟨by simp[h1,h3,cv,aG],h2,h4,trivial⟩
  ·cases h
 |[r,s,q],h=>
  simp only[Zj] at h
  split at h
  ·rename_i x y z hx hy hz
   obtain rfl:=zx h
   obtain⟨h1,h2⟩:=iE hT hW ht hx
   obtain⟨h3,h4⟩:=iE hT hW ht hy
   obtain⟨h5,h6⟩:=iE hT hW ht hz
   exact⟨by simp[h1,h3,h5,cv,aG],h2,h4,h6,trivial⟩
  ·cases h
 |_::_::_::_::_,h=>cases h
mutual
def fT:AV→List Nat
 | .ptr b _=>[b]
 | .slice b _ _ _ _=>[b]
 | .map b=>[b]
 | .ug b=>[b]
 | .fn _ l c=>xH l++xH c
 | .iface _ v=>fT v
 | .agg l=>xH l
 | .tuple l=>xH l
 | .rA l=>xH l
 |_=>[]
def xH:List AV→List Nat
 |[]=>[]
 |v::l=>fT v++xH l
end
def ane:TT→List Nat
 | .nil=>[]
 | .nd v l r=>fT v++ane l++ane r
def asW:aF→List Nat
 | .cells vs _ _=>xH vs
 | .map es _=>es.flatMap fun x=>fT x.1++fT x.2.1
 | .ky es=>es.flatMap fun x=>fT x.1++fT x.2
 | .mX _ _=>[]
 | .mo m _ _ _=>[m]
 | .loop _ _ _ t _ _ _=>ane t
 | .Sa=>[]
 | .img _ _=>[]
def reach (lo:Nat)(bl:List (Nat×aF)):Nat→List Nat→List Nat→List Nat
 |0,_,seen=>seen
 |_,[],seen=>seen
 |n+1,b::todo,seen=>cond (Nat.blt b lo) (reach lo bl n todo seen) (cond (iD b seen) (reach lo bl n todo seen)
  (match au b bl with
  |some k=>reach lo bl n (asW k++todo) (b::seen)
  |none=>reach lo bl n todo (b::seen)))
def gcL (lo:Nat)(seen:List Nat):List (Nat×aF)→List (Nat×aF)
 |[]=>[]
 |p::l=>cond (Nat.blt p.1 lo) (p::l) (cond (iD p.1 seen) (p::gcL lo seen l) (gcL lo seen l))
theorem DV (lo:Nat)(seen:List Nat):∀l,(gcL lo seen l).Sublist l
 |[]=>.slnil
 |p::l=>by
  unfold gcL
  cases Nat.blt p.1 lo
  ·cases iD p.1 seen
   ·exact (DV lo seen l).cons p
   ·exact (DV lo seen l).cons_cons p
  ·exact List.Sublist.refl _
def LW (lo:Nat):List Nat→List Nat
 |[]=>[]
 |b::l=>cond (Nat.blt b lo) (b::LW lo l) (LW lo l)
theorem qN {lo b:Nat}:∀{l:List Nat},b∈LW lo l↔b∈l∧b < lo
 |[]=>by simp[LW]
 |x::l=>by
  unfold LW
  cases h:Nat.blt x lo with
  |true=>
   have:=aT h
   simp only[cond_true,List.mem_cons,qN (l:=l)]
   constructor
   ·rintro (rfl | ⟨h1,h2⟩)
    ·exact⟨.inl rfl,this⟩
    ·exact⟨.inr h1,h2⟩
   ·rintro ⟨rfl | h1,h2⟩
    ·exact .inl rfl
    ·exact .inr ⟨h1,h2⟩
  |false=>
   have hx:¬x < lo:=fun e=>by
    have:Nat.blt x lo=true:=by simpa [Nat.blt_eq] using e
    rw[this] at h;cases h
   simp only[cond_false,List.mem_cons,qN (l:=l)]
   constructor
   ·rintro ⟨h1,h2⟩;exact⟨.inr h1,h2⟩
   ·rintro ⟨rfl | h1,h2⟩
    ·exact absurd h2 hx
    ·exact⟨h1,h2⟩
def iL:List Nat→List Nat→List Nat
 |[],l=>l
 |b::m,l=>addN b (iL m l)
theorem dS {x:Nat}:∀{m l:List Nat},x∈iL m l↔x∈m∨x∈l
 |[],l=>by simp[iL]
 |b::m,l=>by rw[iL,dD,dS,List.mem_cons,or_assoc]
def CY (bl:List (Nat×aF)):List Nat→List Nat
 |[]=>[]
 |b::l=>match au b bl with
  |some k=>asW k++CY bl l
  |none=>CY bl l
def gcA (W W':AW)(v:AV):AW:=
 let old:=LW W.nx W'.az
 ⟨W'.nx,gcL W.nx (reach W.nx W'.bl 100000 (fT v++CY W'.bl old) []) W'.bl,iL old W.az,W'.gl⟩
theorem Post.gc {w0:World}{ρ ρ':Env}{W W':AW}{w w':World}(h:Post w0 ρ ⟨W.nx,W.bl,[],W.gl⟩ w ρ' W' w')(v:AV):Post w0 ρ W w ρ' (gcA W W' v) w':=by
 have hm:∀i,fD ρ ⟨W.nx,W.bl,[],W.gl⟩ W' i→fD ρ W (gcA W W' v) i:=fun i ⟨b,h1,h2,h3⟩=>
  ⟨b,dS.2 (.inl (qN.2 ⟨h1,h2⟩)),h2,h3⟩
 have hsub:=DV W.nx (reach W.nx W'.bl 100000 (fT v++CY W'.bl (LW W.nx W'.az)) []) W'.bl
 refine⟨h.ext,h.nx,fun b hb=>dS.2 (.inr hb),h.gr.mono fun i _ hi=>hm i hi,fun b h1 h2 h3=>hm _ (h.fresh b h1 h2 h3),?_,fun b hb hs=>?_,fun b hb hmm=>?_,h.gl⟩
 ·have:=h.rep.drop _ hsub
  exact⟨this.below,this.ok,this.inj,this.rep,this.kN,this.gl⟩
 ·refine h.dom b hb ?_
  obtain⟨k,hk⟩:=Option.isSome_iff_exists.1 hs
  rw[jP h.rep.kN hsub hk];rfl
 ·rcases dS.1 hmm with h1 | h1
  ·rcases h.old b hb (qN.1 h1).1 with h2 | h2
   ·cases h2
   ·exact .inr h2
  ·exact .inl h1
theorem aO.bI {w0:World}{ρ:Env}{W:AW}{w:World}(h:aO w0 ρ W w):aO w0 ρ ⟨W.nx,W.bl,[],W.gl⟩ w:=⟨h.below,h.ok,h.inj,h.rep,h.kN,h.gl⟩
theorem Jq (W W':AW)(v:AV):∀b,b∈W.az→b∈(gcA W W' v).az:=fun _ hb=>dS.2 (.inr hb)
def Ky (P:Program)(F:Tr Func):Prop:=∀g fn,F.get g=some fn→P.funcs[g]? =some fn∧(fn.name == "runtime.NumGoroutine")=false
structure Kv where
 call:ag
 loop:Nat→Option Nat→Cj
 vE:eQ
def abE (P:Program)(T:bG)(ext:ag)(draw:ag→eQ→Nat→nW)(m:Kv)(F:Tr Func)(g:Nat)(args:List AV)(W:AW):Option AW:=
 match F.get g with
 |some fn=>match fn.body with
  |some (.seq (.region _ ops false) c)=>match ops.toList with
   |[⟨some d,.call { callee:=.builtin .recover,args:=asqz,..},_,_,_,none⟩]=>
    let N:=args.length+(fn.ntmps - args.length)
    cond (Nat.ble args.length 1000) (cond (kT N (some d)) (cond (Nat.beq asqz.size 0)
     (match fI P T m.call ext m.vE (draw m.call m.vE N) (m.loop N none) none N c (dO (some d) (.raw .nilIface) (IP 0 args .nil)) W with
     |some (.exit _,_,_)=>none
     |some (_,t,W')=>match Zj T W'.bl t fn.results.toList,dP N t with
      |some _,.tuple []=>some W'
      |_,_=>none
     |none=>none) none) none) none
   |_=>none
  |_=>none
 |none=>none
def UB (late:Nat→List AV→AW→Option AW):List AV→AW→Option AW
 |[],W=>some W
 | .ptr b _::l,W=>match au b W.bl with
   |some .Sa=>UB late l ⟨W.nx,rO b W.bl,addN b W.az,W.gl⟩
   |_=>none
 | .fn (.func g) l c::rest,W=>match late g (l++c) W with
   |some W'=>UB late rest W'
   |none=>none
 |_,_=>none
def rz:AV→List AV
 | .rA l=>l
 |_=>[]
def NA (P:Program)(T:bG)(ext:ag)(draw:ag→eQ→Nat→nW)(m:Kv)(F:Tr Func)(fn:Func)(args:List AV)(W:AW):Option (AV×AW):=
 match fn.body with
 |some c=>
  let N:=args.length+(fn.ntmps - args.length)
  cond (Nat.ble args.length 1000)
  (match fI P T m.call ext m.vE (draw m.call m.vE N) (m.loop N none) none N c (IP 0 args .nil) ⟨W.nx,W.bl,[],W.gl⟩ with
  |some (.exit _,_,_)=>none
  |some (_,t,W1)=>match UB (abE P T ext draw m F) (rz (dP N t)) W1 with
   |some W'=>match Zj T W'.bl t fn.results.toList with
    |some v=>some (v,gcA W W' v)
    |none=>none
   |none=>none
  |none=>none) none
 |none=>none
def Fw (N:Nat):List Nat→List AV→TT→Option TT
 |[],[],t=>some t
 |p::ps,v::vs,t=>cond (kT N (some p)) (Fw N ps vs (TT.put 20 t p v)) none
 |_,_,_=>none
def jG:AX→Option Code
 | .normal=>none
 | .exit id=>some (.exit id)
 | .ret=>some .ret
def LC (P:Program)(T:bG)(ext:ag)(draw:ag→eQ→Nat→nW)(m:Kv)(b:Nat)(args:List AV)(W:AW):Option (AV×AW):=
 match au b W.bl with
 |some (.loop .ready _ N t ps asqz bd)=>
  cond (Nat.blt N 1048575) (match Fw N ps.toList args (TT.put 20 t N (.tuple [])) with
  |some t0=>match fI P T m.call ext m.vE (draw m.call m.vE N) (m.loop N (some b)) (some b) N asqz t0 ⟨W.nx,W.bl,[],W.gl⟩ with
   |some (.normal,t1,W1)=>match au b W1.bl with
    |some (.loop .ready p1 N1 t1' ps1 as1 bd1)=>
     match fI P T m.call ext m.vE (draw m.call m.vE N) (m.loop N (some b)) (some b) N bd t1 ⟨W1.nx,gF b (.loop .busy p1 N1 t1' ps1 as1 bd1) W1.bl,addN b W1.az,W1.gl⟩ with
     |some (x,_,W2)=>match au b W2.bl with
      |some (.loop _ _ N2 t2 ps2 as2 bd2)=>
       some (.bool (jG x).isNone,gcA W ⟨W2.nx,gF b (.loop (if (jG x).isNone then .ready else .done) (jG x) N2 t2 ps2 as2 bd2) W2.bl,addN b W2.az,W2.gl⟩ .bY)
      |_=>none
     |none=>none
    |_=>none
   |_=>none
  |none=>none) none
 |_=>none
def pR (P:Program)(T:bG)(draw:ag→eQ→Nat→nW)(F:Tr Func)(S ext:ag):Nat→Kv
 |0=>⟨S,fun _ _ _ _ _=>none,fun _ _ _=>none⟩
 |n+1=>
  ⟨fun g args W=>match S g args W with
    |some r=>some r
    |none=>match F.get g with
     |some fn=>NA P T ext draw (pR P T draw F S ext n) F fn args W
     |none=>none,
   fun N ro c t W=>match fI P T (pR P T draw F S ext n).call ext (pR P T draw F S ext n).vE (draw (pR P T draw F S ext n).call (pR P T draw F S ext n).vE N) ((pR P T draw F S ext n).loop N ro) ro N c t W with
    |some (.normal,t',W')=>(pR P T draw F S ext n).loop N ro c t' W'
    |r=>r,
   fun b args W=>LC P T ext draw (pR P T draw F S ext n) b args W⟩
end Go.Proofs.YtceaodnohnekkaaGreatDoor.Ex
