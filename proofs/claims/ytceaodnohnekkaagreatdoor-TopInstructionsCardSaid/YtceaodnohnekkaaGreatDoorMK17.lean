/- Parts of the proof of TopInstructions. -/
import Derived.Test.YtceaodnohnekkaaGreatDoorMK3
import Derived.Test.YtceaodnohnekkaaGreatDoorMK4
import Derived.Test.YtceaodnohnekkaaGreatDoorMK7
import Derived.Test.YtceaodnohnekkaaGreatDoorMK6
import Derived.Test.YtceaodnohnekkaaGreatDoorMK11
import Derived.Test.YtceaodnohnekkaaGreatDoorMK14
import Derived.Test.YtceaodnohnekkaaGreatDoorMK15
import Derived.RangeFuncNested
import Derived.RangeFuncBound
import Derived.RangeFuncCalls
import Derived.RangeFuncLeaves
import Derived.Shelf.Abstract
import Derived.Shelf.RegionOpen
import Derived.WalkKit
import Derived.OwnWalkIn
import Derived.TacticsInMore
import Derived.LoopNIn
import Derived.LoopIn
import Derived.Sort.CutIn
namespace Go.Proofs.YtceaodnohnekkaaGreatDoor.Ex
open Go.RowKit
def zD:Nat→List Nat
 |0=>dQ
 |1=>oQ
 |2=>ku
 |3=>dQ
 |4=>dQ
 |_=>oQ
def eG:Nat→List (List Nat)
 |0=>dA
 |1=>mI
 |2=>jw
 |3=>dA
 |4=>dA
 |_=>mI
def RJ:List (List Nat)→Nat→List Nat
 |[],_=>[]
 |r::l,op=>cond (sW r op 0 8) r (RJ l op)
def lkB:List (List Nat)→Nat→Bool
 |[],_=>false
 |r::l,op=>cond (sW r op 0 8) true (lkB l op)
theorem Jb:∀(l:List (List Nat)) (op:Nat),ny l op= .tuple [.str (RJ l op),.bool (lkB l op)]
 |[],_=>rfl
 |r::l,op=>by
  unfold ny RJ lkB
  cases sW r op 0 8
  ·exact Jb l op
  ·rfl
set_option maxRecDepth 100000 in
theorem Dh {p:Nat}(hp:p≤6)(w:World):Calls Tryz.prog 134 #[.int .i64 (p:Int)] w fun e w'=>e= .returned (.string (aa (zD p)))∧w'=w:=by
 obtain rfl | rfl | rfl | rfl | rfl | rfl | rfl:p=0∨p=1∨p=2∨p=3∨p=4∨p=5∨p=6:=by omega
 all_goals
  go_enter Tryz.func134,Tryz.ntmps134
  go_wp2
  go_ret
  exact⟨rfl,rfl⟩
theorem Xo {p:Nat}{nm:List Nat}(h:nm∈dY):eu (zD p) (eG p) nm=true:=by
 unfold zD eG
 split
 ·exact rV h
 ·exact Ob h
 ·exact ae0 h
 ·exact rV h
 ·exact rV h
 ·exact Ob h
theorem Xn {nm:List Nat}(h:nm∈dY)(p:Nat)(w:World)(hG:gJ w):Calls Tryz.prog 133 #[.string (aa (zD p)),.string (aa nm)] w fun e w'=>∃A c,e= .returned (.slice A (fH nm (eG p)).length c)∧Rd w' (fun b=>w.heap.size≤b) A (qw ((fH nm (eG p)).map aa))∧Below w.heap.size w w':=
 yS (bD gN nR) (Zb (Xo (p:=p) h)) ⟨trivial,trivial,trivial⟩ w hG
theorem M8 (p:Nat){o:Nat}(ho:o < 256)(w:World)(hG:gJ w):Calls Tryz.prog 138 #[.string (aa (zD p)),.int .u8 (o:Int)] w fun e w'=>e= .returned (.tuple #[.string (aa (RJ (eG p) o)),.bool (lkB (eG p) o)])∧Below w.heap.size w w':=by
 have hr:aj S1 138 [.str (zD p),.int .u8 (.ofNat o)] ⟨0,[],[],bC⟩=some (.tuple [.str (RJ (eG p) o),.bool (lkB (eG p) o)],⟨6,[],[],bC⟩):=by
  rw[← Jb]
  unfold zD eG
  split
  ·exact vM o ho
  ·exact acU o ho
  ·exact aiQ o ho
  ·exact vM o ho
  ·exact vM o ho
  ·exact acU o ho
 refine (rE (bD gN zb) hr rfl ⟨trivial,trivial,trivial⟩ w hG).mono ?_
 rintro e w' ⟨ρ,rfl,_,hb⟩
 exact⟨rfl,hb⟩
def Uy (nm:List Nat)(p o:Nat):Bool:=WO o (fH nm (eG p))
def Uz (nm:List Nat)(p o:Nat):Bool:=lU (RJ (eG p) o) (fH nm (eG p))
def aiz (p o:Nat)(d:aJ):Bool:=match d.1 with
 |1=>Uy d.2.1 p o && Uz d.2.1 p o
 |_=>true
theorem UJ:allT aiz 0 Ga=true:=by kernel_rfl
theorem amQ {p o:Nat}{d:aJ}(hd:gL p o=some d)(h1:d.1=1):Uy d.2.1 p o=true∧Uz d.2.1 p o=true:=by
 have h:=gp UJ hd
 unfold aiz at h
 rw[h1] at h
 simpa only[Bool.and_eq_true] using h
theorem afQ:allM ltB (dA++mI++jw)=true:=by kernel_rfl
theorem FD {p:Nat}{r:List Nat}(h:r∈eG p):r∈dA++mI++jw:=by
 unfold eG at h
 simp only[List.mem_append]
 split at h <;> simp[h]
theorem OH {p:Nat}{r:List Nat}(h:r∈eG p):∀x∈r,x < 256:=fun _ hx=>aT (dZ (f:=fun x=>Nat.blt x 256) (aV afQ (FD h)) hx)
theorem XW:allM (fun r=>Nat.ble r.length 1000) (dA++mI++jw)=true:=by kernel_rfl
theorem amw {p:Nat}{r:List Nat}(h:r∈eG p):r.length≤1000:=Nat.le_of_ble_eq_true (aV (f:=fun r=>Nat.ble r.length 1000) XW (FD h))
theorem ou {nm:List Nat}:∀{l:List (List Nat)} {r:List Nat},r∈fH nm l→r∈l
 |[],r,h=>by cases h
 |x::l,r,h=>by
  unfold fH at h
  cases hx:jS (Xl x) nm with
  |false=>rw[hx] at h;exact zm _ (ou h)
  |true=>
   rw[hx] at h
   rcases List.mem_cons.1 h with rfl | h
   ·exact zn
   ·exact zm _ (ou h)
theorem rW {nm:List Nat}:∀{l:List (List Nat)},(fH nm l).length≤l.length
 |[]=>zu _
 |x::l=>by
  have:=rW (nm:=nm) (l:=l)
  unfold fH
  cases jS (Xl x) nm
  ·exact Nat.le_succ_of_le this
  ·simpa using this
theorem FH (p:Nat):(eG p).length≤1000:=by
 unfold eG
 split <;> decide
theorem RD:∀{l:List (List Nat)} {o:Nat},RJ l o∈l∨RJ l o=[]
 |[],_=>.inr rfl
 |r::l,o=>by
  unfold RJ
  cases sW r o 0 8
  ·rcases RD (l:=l) (o:=o) with h | h
   ·exact .inl (zm _ h)
   ·exact .inr h
  ·exact .inl zn
theorem agI (p o:Nat):∀x∈RJ (eG p) o,x < 256:=by
 rcases RD (l:=eG p) (o:=o) with h | h
 ·exact OH h
 ·rw[h];intro x hx;cases hx
theorem JO:∀l:List Nat,jS l l=true
 |[]=>rfl
 |x::l=>by
  unfold jS
  rw[show Nat.beq x x=true from (beq_iff _ _).2 rfl]
  exact JO l
theorem Bt (x:List Nat):∀l:List (List Nat),lU x l=bU x l
 |[]=>rfl
 |y::l=>by
  have ih:=Bt x l
  unfold lU bU
  unfold bU at ih
  rw[List.any_cons,ih]
  cases he:jS x y with
  |true=>
   obtain rfl:=fA he
   simp
  |false=>
   have hne:¬y=x:=fun e=>by
    subst e
    rw[JO] at he
    cases he
   simp[hne]
theorem abl {x:List Nat}(hx:∀a∈x,a < 256){l:List (List Nat)}(h:∀r∈l,∀a∈r,a < 256):((l.map aa).any fun t=>decide (aa x=t))=lU x l:=by
 rw[Bt,qO hx h]
end Go.Proofs.YtceaodnohnekkaaGreatDoor.Ex
namespace Go.Proofs.YtceaodnohnekkaaGreatDoor
open Go.RowKit Ex
theorem an7:El Tryz.prog 139 49 (.agg #[.int .i64 0,.int .u8 0,.string ⟨#[]⟩,.slice none 0 0,.string ⟨#[]⟩,.bool false]) 6 80:=⟨Tryz.underlying139,by kernel_rfl,rfl,by decide⟩
abbrev dN:=(Nat×Nat)×aJ×Option Addr×Nat
def fK (x:dN):List Value:=[.int .i64 (x.1.1:Int),.int .u8 (x.1.2:Int),.string (aa x.2.1.2.1),.slice x.2.2.1 (x.2.1.2.2.2.2.length / 3) x.2.2.2,.string (aa x.2.1.2.2.1),.bool x.2.1.2.2.2.1]
def nI (L:List dN):List Value:=L.flatMap fK
theorem Nv (L:List dN)(x:dN):nI (L++[x])=nI L++fK x:=by simp[nI]
structure bW (B:Nat)(w:World)(x:dN):Prop where
 d:gL x.1.1 x.1.2=some x.2.1
 k:x.2.1.1=1
 o:x.1.2 < 256
 r:eX B w x.2.2.1 x.2.2.2 (lQ x.2.1)
theorem bW.after {B:Nat}{w w':World}{x:dN}(h:bW B w x)(hb:Below w.heap.size w w'):bW B w' x:=⟨h.d,h.k,h.o,h.r.after hb⟩
theorem bW.mono {B B':Nat}{w:World}{x:dN}(h:bW B w x)(hB:B'≤B):bW B' w x:=⟨h.d,h.k,h.o,h.r.mono hB⟩
theorem Ex.eX.grown {B base:Nat}{w w':World}{A:Option Addr}{c:Nat}{vs:List Value}{v:Value}{n:Nat}{xs:List Value}(h:eX B w A c vs)(ho:w.ownsRow base 49 6 v n xs)(hg:w.grownBy w' v.ownBlock):eX B w' A c vs:=by
 rcases h with h | ⟨h0,q,m,cur,rfl,hB,hh,h'⟩
 ·exact .inl h
 ·exact .inr ⟨h0,q,m,cur,rfl,hB,(hg.block q (lt_of_heap hh) (own_ne ho hh (by decide))).trans hh,h'⟩
theorem bW.grown {B base:Nat}{w w':World}{x:dN}{v:Value}{n:Nat}{xs:List Value}(h:bW B w x)(ho:w.ownsRow base 49 6 v n xs)(hg:w.grownBy w' v.ownBlock):bW B w' x:=⟨h.d,h.k,h.o,h.r.grown ho hg⟩
def Done (nm:List Nat)(ps:List Nat)(i o:Nat)(L:List dN):Prop:=∀(p' o':Nat) (d:aJ),((∃j,j < i∧ps[j]? =some p'∧o' < 256)∨(ps[i]? =some p'∧o' < o))→gL p' o'=some d→d.1=1→d.2.1=nm→∃x,x∈L∧x.1=(p',o')∧x.2.1=d
theorem Done.mono {nm ps:List Nat}{i o:Nat}{L L':List dN}(h:Done nm ps i o L)(hL:∀x,x∈L→x∈L'):Done nm ps i o L':=fun p' o' d h1 h2 h3 h4=>let ⟨x,hx,h5⟩:=h p' o' d h1 h2 h3 h4;⟨x,hL x hx,h5⟩
theorem Done.skip {nm ps:List Nat}{i o p:Nat}{d:aJ}{L:List dN}(h:Done nm ps i o L)(hp:ps[i]? =some p)(hd:gL p o=some d)(hn:d.1=1→d.2.1=nm→∃x,x∈L∧x.1=(p,o)∧x.2.1=d):Done nm ps i (o+1) L:=fun p' o' d' h1 h2 h3 h4=>by
 rcases h1 with h1 | ⟨h1,h1'⟩
 ·exact h p' o' d' (.inl h1) h2 h3 h4
 ·by_cases ho:o'=o
  ·subst ho
   rw[hp] at h1
   obtain rfl:=zx h1
   rw[hd] at h2
   obtain rfl:=zx h2
   exact hn h3 h4
  ·exact h p' o' d' (.inr ⟨h1,by omega⟩) h2 h3 h4
theorem Done.page {nm ps:List Nat}{i:Nat}{L:List dN}(h:Done nm ps i 256 L):Done nm ps (i+1) 0 L:=fun p' o' d' h1 h2 h3 h4=>by
 rcases h1 with⟨j,hj,h1,h1'⟩ | ⟨_,h1'⟩
 ·by_cases hji:j=i
  ·subst hji
   exact h p' o' d' (.inr ⟨h1,h1'⟩) h2 h3 h4
  ·exact h p' o' d' (.inl ⟨j,by omega,h1,h1'⟩) h2 h3 h4
 ·exact absurd h1' (Nat.not_lt_zero _)
theorem Done.nil (nm ps:List Nat):Done nm ps 0 0 []:=fun p' o' d' h1=>by
 rcases h1 with⟨j,hj,_⟩ | ⟨_,h1'⟩
 ·exact absurd hj (Nat.not_lt_zero _)
 ·exact absurd h1' (Nat.not_lt_zero _)
structure Aa (w W:World)(nm ps:List Nat)(v:Value)(L:List dN)(i o:Nat):Prop where
 own:W.ownsRow w.heap.size 49 6 v L.length (nI L)
 len:L.length≤256 * i+o
 ok:∀x,x∈L→bW w.heap.size W x∧x.1.1∈ps
 all:Done nm ps i o L
 bl:Below w.heap.size w W
section
variable {w W W':World} {nm ps:List Nat} {v v':Value} {L:List dN} {i o p:Nat} {d:aJ}
theorem Aa.start (w:World)(nm ps:List Nat):Aa w w nm ps (.slice none 0 0) [] 0 0:=⟨World.ownsRow_nil _ _ _ _,Nat.zero_le _,fun x hx=>(by cases hx),Done.nil _ _,zo _ _⟩
theorem Aa.after (h:Aa w W nm ps v L i o)(hb:Below W.heap.size W W'):Aa w W' nm ps v L i o:=⟨FQ h.own hb,h.len,fun x hx=>⟨(h.ok x hx).1.after hb,(h.ok x hx).2⟩,h.all,h.bl.trans (hb.mono h.bl.size)⟩
theorem Aa.skip (h:Aa w W nm ps v L i o)(hp:ps[i]? =some p)(hd:gL p o=some d)(hn:d.1=1→d.2.1=nm→False):Aa w W nm ps v L i (o+1):=⟨h.own,by have:=h.len;omega,h.ok,h.all.skip hp hd fun a b=>(hn a b).elim,h.bl⟩
theorem Aa.page (h:Aa w W nm ps v L i 256):Aa w W nm ps v L (i+1) 0:=⟨h.own,by have:=h.len;omega,h.ok,h.all.page,h.bl⟩
theorem Aa.push {A:Option Addr}{c:Nat}{B:Nat}(h:Aa w W nm ps v L i o)(hB:w.heap.size≤B)(hp:ps[i]? =some p)(hd:gL p o=some d)(hk:d.1=1)(ho:o < 256)(hr:eX B W A c (lQ d))(hown:W'.ownsRow w.heap.size 49 6 v' (L.length+1) (nI L++fK ((p,o),d,A,c)))(hg:W.grownBy W' v.ownBlock)(hs:w.heap.size≤W.heap.size):Aa w W' nm ps v' (L++[((p,o),d,A,c)]) i (o+1):=by
 refine⟨?_,?_,?_,?_,?_⟩
 ·rw[List.length_append,Nv]
  exact hown
 ·rw[List.length_append]
  have:=h.len
  simp only[List.length_cons,List.length_nil]
  omega
 ·intro x hx
  rcases List.mem_append.1 hx with hx | hx
  ·exact⟨(h.ok x hx).1.grown h.own hg,(h.ok x hx).2⟩
  ·obtain rfl:=List.mem_singleton.1 hx
   exact⟨⟨hd,hk,ho,(hr.mono hB).grown h.own hg⟩,List.mem_of_getElem? hp⟩
 ·exact (h.all.mono fun x hx=>List.mem_append_left _ hx).skip hp hd fun _ _=>⟨_,List.mem_append_right _ (List.mem_singleton.2 rfl),rfl,rfl⟩
 ·exact h.bl.grown hg hs fun j ej=>(h.own.lt j ej).1
theorem Zo {w w':World}{v v':Value}{A:Option Addr}{xs:List Value}(h:Rd w (fun b=>some b≠v.ownBlock∧b < w.heap.size) A xs)(hg:w.grownBy w' v.ownBlock)(hat:v'.ownBlock=v.ownBlock∨v'.ownBlock=some w.heap.size):Rd w' (fun b=>some b≠v'.ownBlock∧b < w'.heap.size) A xs:=fun hx=>by
 obtain⟨ad,rfl,⟨h1,h2⟩,h3⟩:=h hx
 have hsz:w.heap.size≤w'.heap.size:=hg.size
 refine⟨ad,rfl,⟨fun e=>?_,by omega⟩,fun j u hu=>?_⟩
 ·rcases hat with e2 | e2
  ·exact h1 (by rw[e,e2])
  ·rw[e2] at e
   have:=zx e
   omega
 ·have hc:=h3 j u hu
  have e:(ad.add j).block=ad.block:=by unfold Addr.add;split <;> rfl
  rw[World.cell?_of_block (w:=w) (hg.block _ (lt_of_cell hc) (by rw[e];exact h1))]
  exact hc
theorem afZ {w w':World}{v:Value}{A:Option Addr}{xs:List Value}(h:Rd w (fun b=>some b≠v.ownBlock∧b < w.heap.size) A xs)(hb:Below w.heap.size w w'):Rd w' (fun b=>some b≠v.ownBlock∧b < w'.heap.size) A xs:=
 (h.after hb).gz fun _ hb'=>⟨hb'.1,zq hb'.2 hb.size⟩
end
theorem aol {p o:Nat}{d:aJ}(hd:gL p o=some d)(hk:d.1≠1)(w:World)(hG:gJ w):
 Calls Tryz.prog 104 #[.int .i64 (p:Int),.int .u8 (o:Int)] w fun e w'=>∃(p' o':Int) (nm ex:ByteArray) (al:Bool) (A:Option Addr) (n c:Nat) (k:Int),e= .returned (.tuple #[.agg #[.int .i64 p',.int .u8 o',.string nm,.slice A n c,.string ex,.bool al],.int .i64 k])∧(k == 1)=false∧Below w.heap.size w w':=by
 refine (Kj hd w hG).mono ?_
 rintro e w' ⟨p',o',nm,ex,al,A,n,c,rfl,hb⟩
 refine⟨p',o',nm,ex,al,A,n,c,d.1,rfl,?_,hb⟩
 rw[beq_eq_false_iff_ne]
 omega
theorem Vv (A:Option Addr)(n c:Nat)(w:World)(hn:0 < n)(hm:(n:Int)≤1000):Calls Tryz.prog 132 #[.slice A n c] w fun e w'=>e= .returned (.slice A n c)∧w'=w:=by
 have h1:(0:Int) < (n:Int):=by omega
 go_enter Tryz.func132,Tryz.ntmps132
 go_wp2
 go_ret
 exact⟨rfl,rfl⟩
def NmR (w W:World)(nm ps:List Nat)(v:Value)(L:List dN)(i o p:Nat)(AR:Option Addr):Prop:=Aa w W nm ps v L i o∧Rd W (fun b=>some b≠v.ownBlock∧b < W.heap.size) AR (qw ((fH nm (eG p)).map aa))
theorem NmR.after {w W W':World}{nm ps:List Nat}{v:Value}{L:List dN}{i o p:Nat}{AR:Option Addr}(h:NmR w W nm ps v L i o p AR)(hb:Below W.heap.size W W'):NmR w W' nm ps v L i o p AR:=⟨h.1.after hb,afZ h.2 hb⟩
theorem aiy {nm:List Nat}{p o:Nat}{d:aJ}(hd:gL p o=some d)(h:Uy nm p o=false∨Uz nm p o=false):d.1=1→d.2.1=nm→False:=fun h1 h2=>by
 obtain⟨e1,e2⟩:=amQ hd h1
 subst h2
 rcases h with h | h
 ·rw[e1] at h;cases h
 ·rw[e2] at h;cases h
theorem UI {w wr w3:World}{nm ps:List Nat}{v:Value}{L:List dN}{i o p:Nat}{AR:Option Addr}(h:Aa w wr nm ps v L i o)(hr:Rd w3 (fun b=>wr.heap.size≤b) AR (qw ((fH nm (eG p)).map aa)))(hb:Below wr.heap.size wr w3):NmR w w3 nm ps v L i o p AR:=
 ⟨h.after hb,hr.mono fun b hb' hle=>⟨fun e=>by
   have:=(h.own.lt b e.symm).2
   omega,hb'⟩⟩
theorem aeZ:∀n:Fin 256,IntKind.u8.wrap (n.val:Int)=(n.val:Int):=by decide+kernel
theorem NmR.drew {w W:World}{nm ps:List Nat}{v:Value}{L:List dN}{i o p:Nat}{AR:Option Addr}(h:NmR w W nm ps v L i o p AR):NmR w W.drew nm ps v L i o p AR:=h.after (aM (zo _ _))
theorem NmR.skip {w W:World}{nm ps:List Nat}{v:Value}{L:List dN}{i o p:Nat}{d:aJ}{AR:Option Addr}(h:NmR w W nm ps v L i o p AR)(hp:ps[i]? =some p)(hd:gL p o=some d)(hn:d.1=1→d.2.1=nm→False):NmR w W nm ps v L i (o+1) p AR:=⟨h.1.skip hp hd hn,h.2⟩
set_option maxRecDepth 100000 in
set_option maxHeartbeats 16000000 in
theorem UN (nm:List Nat)(hnm:nm∈dY)(ps:List Nat)(hps:ps≠[])(hp6:∀p∈ps,p≤6)(hpl:ps.length≤7)(A:Option Addr)(n c:Nat)(w:World)(p:Nat→Prop)(hn:n=ps.length)(hG:gJ w)(h:Rd w p A (ps.map fun (x:Nat)=>Value.int .i64 (x:Int))):
 Calls Tryz.prog 73 #[.string (aa nm),.slice A n c] w fun e w'=>∃v L,e= .returned v∧Aa w w' nm ps v L ps.length 0:=by
 have CE:Hid (∀W,Calls Tryz.prog 132 #[.slice A n c] W fun e w'=>e= .returned (.slice A n c)∧W=w'):=fun W=>(Vv A n c W (by rw[hn];exact List.length_pos_iff.2 hps) (by omega)).mono fun _ _ h=>⟨h.1,h.2.symm⟩
 have CP:Hid (∀(q:Nat) W,q≤6→Calls Tryz.prog 134 #[.int .i64 (q:Int)] W fun e w'=>e= .returned (.string (aa (zD q)))∧W=w'):=fun q W hq=>(Dh hq W).mono fun _ _ h=>⟨h.1,h.2.symm⟩
 have CW:Hid (∀(q:Nat) W,Below w.heap.size w W→Calls Tryz.prog 133 #[.string (aa (zD q)),.string (aa nm)] W fun e w'=>∃A c,e= .returned (.slice A (fH nm (eG q)).length c)∧Rd w' (fun b=>W.heap.size≤b) A (qw ((fH nm (eG q)).map aa))∧Below W.heap.size W w'):=fun q W hb=>Xn hnm q W (hG.after hb)
 have CF:Hid (∀(q o:Nat) W AR c b,o < 256→Rd W (fun _=>True) AR (qw ((fH nm (eG q)).map aa))→W.cell? ⟨b,0,none⟩=some (.int .i64 (o:Int))→Calls Tryz.prog 135 #[.slice AR (fH nm (eG q)).length c,.func (.func 136) #[] #[.pointer (some ⟨b,0,none⟩)]] W fun e w'=>e= .returned (.bool (Uy nm q o))∧W=w'):=fun q o W AR c b ho hr hc=>by
  have hlen:=rW (nm:=nm) (l:=eG q)
  have atj:=FH q
  have:=BP AR ((fH nm (eG q)).map aa) (fH nm (eG q)).length c o b W _ (by simp) (by omega) ho (fun s hs=>by
   obtain⟨r,hr,rfl⟩:=List.mem_map.1 hs
   have:=amw (ou hr)
   rw[aA]
   simp only[maxLen]
   omega) hr hc
  rw[Ez] at this
  exact this
 have CL:Hid (∀(q o:Nat) W,o < 256→Below w.heap.size w W→Calls Tryz.prog 138 #[.string (aa (zD q)),.int .u8 (o:Int)] W fun e w'=>e= .returned (.tuple #[.string (aa (RJ (eG q) o)),.bool (lkB (eG q) o)])∧Below W.heap.size W w'):=fun q o W ho hb=>M8 q ho W (hG.after hb)
 have CC:Hid (∀(q o:Nat) W AR c,Rd W (fun _=>True) AR (qw ((fH nm (eG q)).map aa))→Calls Tryz.prog 139 #[.slice AR (fH nm (eG q)).length c,.string (aa (RJ (eG q) o))] W fun e w'=>e= .returned (.bool (Uz nm q o))∧W=w'):=fun q o W AR c hr=>by
  have hlen:=rW (nm:=nm) (l:=eG q)
  have atj:=FH q
  have:=J3 AR ((fH nm (eG q)).map aa) (fH nm (eG q)).length c (aa (RJ (eG q) o)) W _ (by simp) (by omega) hr
  rw[abl (agI q o) fun r hr=>OH (ou hr)] at this
  exact this
 have CA:Hid (∀(q o:Nat) (d:aJ) W,gL q o=some d→d.1=1→Below w.heap.size w W→Calls Tryz.prog 104 #[.int .i64 (q:Int),.int .u8 (o:Int)] W fun e w'=>∃A c,e= .returned (.tuple #[Xe q o d A c,.int .i64 1])∧eX W.heap.size w' A c (lQ d)∧Below W.heap.size W w'):=fun q o d W hd hk hb=>adb hd hk W (hG.after hb)
 have CN:Hid (∀(q o:Nat) (d:aJ) W,gL q o=some d→d.1≠1→Below w.heap.size w W→Calls Tryz.prog 104 #[.int .i64 (q:Int),.int .u8 (o:Int)] W fun e w'=>∃(p' o':Int) (nm ex:ByteArray) (al:Bool) (A:Option Addr) (n c:Nat) (k:Int),e= .returned (.tuple #[.agg #[.int .i64 p',.int .u8 o',.string nm,.slice A n c,.string ex,.bool al],.int .i64 k])∧(k == 1)=false∧Below W.heap.size W w'):=fun q o d W hd hk hb=>aol hd hk W (hG.after hb)
 have HR:=zz h
 have HN:=zz hn
 have HP:=zz hp6
 have hn7:(n:Int)≤7:=by omega
 have H0:=zz (Aa.start w nm ps)
 clear h hn hG hnm hps hp6 hpl
 go_enter Tryz.func73,Tryz.ntmps73
 go_wp2_with (go_at_call 132;refine (CE.out _).mono ?_;rintro e w1 ⟨rfl,rfl⟩)
 go_loopw [5,17] (fun v5 v17 wr=>∃(i:Nat) (L:List dN),v17= .int .i64 (i:Int)∧i≤n∧Hid (Aa w wr nm ps v5 L i 0)) (fun _ v17 _=>n - (intOf v17).toNat)
 case atStart=>exact⟨0,[],rfl,Nat.zero_le _,H0.out⟩
 case round=>
  obtain⟨i,L,rfl,hi,hw⟩:=hrel
  clear H0 CE
  by_cases hlt:i < n
  ·have hi1:i < ps.length:=by rw[← HN.out];exact hlt
   obtain⟨p0,hp0⟩:∃p0,ps[i]? =some p0:=⟨_,List.getElem?_eq_getElem hi1⟩
   have hp6:p0≤6:=HP.out p0 (List.mem_of_getElem? hp0)
   obtain⟨q,off,rfl,_,c0⟩:=(HR.out.after hw.out.bl).v (k:=i) (u:=.int .i64 (p0:Int)) (by rw[List.getElem?_map,hp0];rfl)
   have HP0:=zz hp0
   clear hp0
   go_wp2_with (first
    |(go_at_call 134;refine (CP.out p0 _ hp6).mono ?_;rintro e w2 ⟨rfl,rfl⟩)
    |(go_at_call 133;refine (CW.out p0 _ hw.out.bl).mono ?_;rintro e w3 ⟨AR,cR,rfl,hr,hb⟩;have HR3:=zz (UI hw.out hr hb);clear hr hb))
   clear c0 hw
   obtain⟨wo,rfl⟩:∃wo:World,wo=wr:=⟨_,rfl⟩
   go_loopw [5,25] (fun v5 v25 wi=>∃(o:Nat) (L:List dN),v25= .int .i64 (o:Int)∧o≤256∧Hid (NmR w wi nm ps v5 L i o p0 AR)) (fun _ v25 _=>256 - (intOf v25).toNat)
   case atStart=>exact⟨0,L,rfl,by omega,HR3.out⟩
   case round=>
    clear HR3
    obtain⟨o,L,rfl,ho,hw⟩:=hrel
    by_cases hlo:o < 256
    ·have anm:(o:Int) < 256:=by omega
     have hwr:IntKind.u8.wrap (o:Int)=o:=aeZ ⟨o,hlo⟩
     obtain⟨d,hd⟩:=FZ (p:=p0) (o:=o) (by omega) hlo
     have HD:=zz hd
     clear hd
     have HB1:=zz (hw.out.after ((zo wr.heap.size wr).alloc (zu _) (.cells #[.int .i64 (o:Int)] 3)))
     have fE:Hid (Bk (wr.alloc (.cells #[.int .i64 (o:Int)] 3)) wr.heap.size 3 [.int .i64 (o:Int)]):=Bk.new wr _ _
     have x0:=fE.out.cell 0 rfl
     have CFd:=zz (CF.out p0 o _ AR cR _ hlo (HB1.out.2.gz fun _ _=>trivial) x0)
     have CCd:Hid (∀W,Rd W (fun _=>True) AR (qw ((fH nm (eG p0)).map aa))→_):=fun W r=>CC.out p0 o W AR cR r
     have CLd:Hid (∀W,Below w.heap.size w W→_):=fun W hb=>CL.out p0 o W hlo hb
     have CAd:Hid (∀W,d.1=1→Below w.heap.size w W→_):=fun W hk hb=>CA.out p0 o d W HD.out hk hb
     have CNd:Hid (∀W,d.1≠1→Below w.heap.size w W→_):=fun W hk hb=>CN.out p0 o d W HD.out hk hb
     clear CF CC CL CA CN CW
     have HN1:Hid (Uy nm p0 o=false→d.1=1→d.2.1=nm→False):=fun h=>aiy HD.out (.inl h)
     have HN2:Hid (Uz nm p0 o=false→d.1=1→d.2.1=nm→False):=fun h=>aiy HD.out (.inr h)
     generalize Uy nm p0 o=b1 at CFd HN1
     generalize Uz nm p0 o=b2 at CCd HN2
     generalize RJ (eG p0) o=lt at CCd CLd
     generalize lkB (eG p0) o=lb at CLd
     cases b1
     ·have HS:=zz (HB1.out.skip HP0.out HD.out (HN1.out rfl))
      go_wp2_with (go_at_call 135;refine CFd.out.mono ?_;rintro e w4 ⟨rfl,rfl⟩)
      go_roundw
      case rel=>exact⟨o+1,L,by go_num,by omega,HS.out⟩
      case measure=>simp[intOf];omega
     ·go_upto_region 10 with (go_at_call 135;refine CFd.out.mono ?_;rintro e w4 ⟨rfl,rfl⟩)
      obtain⟨b9,DR⟩:∃b,wr.heap.size=b:=⟨_,rfl⟩
      rw[DR] at fE x0 ⊢
      clear hw
      generalize (wr.alloc (.cells #[.int .i64 (o:Int)] 3))=W1 at HB1 fE x0 ⊢
      clear DR CFd
      have xd:W1.drew.cell? ⟨b9,0,none⟩=some (.int .i64 (o:Int)):=x0
      have WV:=zz HB1.out.drew
      have HKd:=zz fE.out.drew
      first | (go_region_held3 (fun w'=>w'.cell? ⟨b9,0,none⟩=some (.int .i64 (o:Int))) (first | assumption | go_keep) (first
       |(go_at_call 134;refine (CP.out p0 _ hp6).mono ?_;rintro e w5 ⟨rfl,rfl⟩)
       |(go_at_call 138;refine (CLd.out _ WV.out.1.bl).mono ?_;rintro e w6 ⟨rfl,hb⟩;have H6:=zz (WV.out.after hb);have x6:=(HKd.out.after hb).cell 0 rfl;clear hb))) | fail
      all_goals
       clear WV HKd xd CLd HN1 HB1 fE x0
       have CCe:=zz (CCd.out _ (H6.out.2.gz fun _ _=>trivial))
       clear CCd
       cases b2
       ·have HS:=zz (H6.out.skip HP0.out HD.out (HN2.out rfl))
        go_wp2_with (go_at_call 139;refine CCe.out.mono ?_;rintro e w7 ⟨rfl,rfl⟩)
        go_roundw
        case rel=>exact⟨o+1,L,by go_num,by omega,HS.out⟩
        case measure=>simp[intOf];omega
       ·by_cases hk:d.1=1
        ·have CAe:=CAd.out w6 hk H6.out.1.bl
         unfold Xe at CAe
         have CAe:=zz CAe
         have HK:=zz hk
         clear CAd CNd hk HN2
         go_upto_region 14 with (first
          |(go_at_call 139;refine CCe.out.mono ?_;rintro e w7 ⟨rfl,rfl⟩)
          |(go_at_call 104;refine CAe.out.mono ?_;rintro e w8 ⟨A9,c9,rfl,hr9,hb⟩;have H8:=zz ((H6.out.after hb).after ((zo w8.heap.size w8).alloc (zu _) (.cells #[.int .i64 (p0:Int),.int .u8 (o:Int),.string (aa d.2.1),.slice A9 (d.2.2.2.2.length / 3) c9,.string (aa d.2.2.1),.bool d.2.2.2.1] 49)));have KC:=zz (hr9.after ((zo w8.heap.size w8).alloc (zu _) (.cells #[.int .i64 (p0:Int),.int .u8 (o:Int),.string (aa d.2.1),.slice A9 (d.2.2.2.2.length / 3) c9,.string (aa d.2.2.1),.bool d.2.2.2.1] 49)));have HK8:Hid (Bk (w8.alloc (.cells #[.int .i64 (p0:Int),.int .u8 (o:Int),.string (aa d.2.1),.slice A9 (d.2.2.2.2.length / 3) c9,.string (aa d.2.2.1),.bool d.2.2.2.1] 49)) w8.heap.size 49 [.int .i64 (p0:Int),.int .u8 (o:Int),.string (aa d.2.1),.slice A9 (d.2.2.2.2.length / 3) c9,.string (aa d.2.2.1),.bool d.2.2.2.1]):=Bk.new w8 _ _;clear hr9 hb))
         obtain⟨b12,atz⟩:∃b,w8.heap.size=b:=⟨_,rfl⟩
         rw[atz] at HK8 ⊢
         have HRB:=zz (KC.out.mono (zt H6.out.1.bl.size (zu _)))
         clear KC atz CAe CCe
         generalize (w8.alloc (.cells #[.int .i64 (p0:Int),.int .u8 (o:Int),.string (aa d.2.1),.slice A9 (d.2.2.2.2.length / 3) c9,.string (aa d.2.2.1),.bool d.2.2.2.1] 49))=W8 at H8 HK8 HRB ⊢
         have H9:=zz (H8.out.after ((zo W8.heap.size W8).alloc (zu _) (.cells #[.int .i64 (p0:Int),.int .u8 (o:Int),.string (aa d.2.1),.slice A9 (d.2.2.2.2.length / 3) c9,.string (aa d.2.2.1),.bool d.2.2.2.1] 49)))
         have HR9:=zz (HRB.out.after ((zo W8.heap.size W8).alloc (zu _) (.cells #[.int .i64 (p0:Int),.int .u8 (o:Int),.string (aa d.2.1),.slice A9 (d.2.2.2.2.length / 3) c9,.string (aa d.2.2.1),.bool d.2.2.2.1] 49)))
         have hrd:=Rd.new W8 #[.int .i64 (p0:Int),.int .u8 (o:Int),.string (aa d.2.1),.slice A9 (d.2.2.2.2.length / 3) c9,.string (aa d.2.2.1),.bool d.2.2.2.1] 49 (p:=fun _=>True) trivial
         have hown1:=H9.out.1.own
         have HL:=zz (show L.length+1≤maxLen∧(L.length+1) * 80≤140737488355328 by
          have:=H8.out.1.len
          simp only[maxLen]
          omega)
         have HS9:=zz H9.out.1.bl.size
         have x0:=HK8.out.cell 0 rfl
         have x1:=HK8.out.cell 1 rfl
         have x2:=HK8.out.cell 2 rfl
         have x3:=HK8.out.cell 3 rfl
         have x4:=HK8.out.cell 4 rfl
         have x5:=HK8.out.cell 5 rfl
         go_wp2_with (at_builtin;refine eY an7 rfl (.tmp 53) (.tmp 55) rfl w.heap.size _ L.length (nI L) (fun _=>True) (some ⟨W8.heap.size,0,none⟩) 1 1 _ rfl rfl hown1 rfl hrd (by simp[Value.oneCell']) HL.out.1 HL.out.2 HS9.out ?_;intro v' w9 hown2 hg1 Nq hz1)
         go_roundw
         case rel=>exact⟨o+1,L++[((p0,o),d,A9,c9)],by go_num,by omega,H9.out.1.push (zu _) HP0.out HD.out HK.out hlo HR9.out hown2 hg1 HS9.out,Zo H9.out.2 hg1 Nq⟩
         case measure=>simp[intOf];omega
        ·have CNe:=zz (CNd.out w6 hk H6.out.1.bl)
         have HS:=zz (H6.out.skip HP0.out HD.out (fun h _=>hk h))
         clear CAd CNd hk HN2
         go_wp2_with (first
          |(go_at_call 139;refine CCe.out.mono ?_;rintro e w7 ⟨rfl,rfl⟩)
          |(go_at_call 104;refine CNe.out.mono ?_;rintro e w8 ⟨p',o',uS,ex,al,A9,n9,c9,k9,rfl,hk9,hb⟩;have H8:=zz ((HS.out.after hb).after ((zo w8.heap.size w8).alloc (zu _) (.cells #[.int .i64 p',.int .u8 o',.string uS,.slice A9 n9 c9,.string ex,.bool al] 49)));clear hb))
         go_roundw
         case rel=>exact⟨o+1,L,by go_num,by omega,H8.out⟩
         case measure=>simp[intOf];omega
    ·have anm:¬(o:Int) < 256:=by omega
     obtain rfl:o=256:=by omega
     have HS:=zz hw.out.1.page
     go_wp2
     go_roundw
     case rel=>exact⟨i+1,L,by go_num,by omega,HS.out⟩
     case measure=>simp[intOf];omega
  ·obtain rfl:i=n:=by omega
   have HX:=zz hw.out
   rw[HN.out] at HX
   go_wp2
   go_ret
   exact⟨_,L,rfl,HX.out⟩
end Go.Proofs.YtceaodnohnekkaaGreatDoor
namespace Go.Proofs.YtceaodnohnekkaaGreatDoor
open Go.RowKit Go.Shelf Ex
attribute [local go_sem] Oper.semAt_some
def Ab (B:Nat)(W W':World):Prop:=W.heap.size≤W'.heap.size∧∀(b:Nat) (o:Obj),B≤b→W.heap[b]? =some o→o.isCells=true→W'.heap[b]? =some o
theorem Ab.trans {B:Nat}{X Y Z:World}(h:Ab B X Y)(k:Ab B Y Z):Ab B X Z:=⟨zt h.1 k.1,fun b o hB hb ho=>k.2 b o hB (h.2 b o hB hb ho) ho⟩
theorem Ab.refl (B:Nat)(W:World):Ab B W W:=⟨zu _,fun _ _ _ h _=>h⟩
theorem Ab.putObj {B:Nat}(W:World)(l:Nat)(o o':Obj)(hl:W.heap[l]? =some o)(ho:o.isCells=false):Ab B W (W.putObj l o'):=⟨by simp,fun b u _ hb hu=>by
 by_cases e:b=l
 ·subst e
  rw[hl] at hb
  obtain rfl:=zx hb
  rw[ho] at hu
  cases hu
 ·rw[World.putObj_heap_other e];exact hb⟩
theorem Ab.below {B:Nat}{W W':World}(h:Below W.heap.size W W'):Ab B W W':=⟨h.size,fun b _ _ hb _=>(h.block b (lt_of_heap hb)).trans hb⟩
theorem Ab.own {B base n size:Nat}{e:TypeId}{v:Value}{xs:List Value}{W W':World}(hk:Ab B W W')(h:W.ownsRow base e size v n xs)(hB:B≤base):W'.ownsRow base e size v n xs:=by
 refine⟨h.1,h.2.imp id ?_⟩
 rintro ⟨g,cap,cur,p1,p2,p3,p4⟩
 exact⟨g,cap,cur,p1,p2,hk.2 g _ (by omega) p3 rfl,p4⟩
theorem Ab.jf {B B':Nat}{W W':World}{x:dN}(hk:Ab B W W')(h:bW B' W x)(hB:B≤B'):bW B' W' x:=by
 refine⟨h.d,h.k,h.o,?_⟩
 rcases h.r with h | ⟨h0,q,m,cur,h1,h2,hh,h'⟩
 ·exact .inl h
 ·exact .inr ⟨h0,q,m,cur,h1,h2,hk.2 q _ (by omega) hh rfl,h'⟩
theorem BK:∀{L:List dN} {k:Nat} {x:dN} (j:Nat) {u:Value},L[k]? =some x→(fK x)[j]? =some u→(nI L)[k * 6+j]? =some u
 |[],k,x,j,u,h,_=>by simp at h
 |y::L,0,x,j,u,h,hu=>by
  obtain rfl:=zx h
  have hj:j < (fK y).length:=(List.getElem?_eq_some_iff.1 hu).1
  show (fK y++nI L)[0 * 6+j]? =some u
  rw[Nat.zero_mul,Nat.zero_add,List.getElem?_append_left hj]
  exact hu
 |y::L,k+1,x,j,u,h,hu=>by
  have h':L[k]? =some x:=by simpa using h
  have:=BK j h' hu
  show (fK y++nI L)[(k+1) * 6+j]? =some u
  have hl:(fK y).length=6:=rfl
  rw[List.getElem?_append_right (by omega),hl,show (k+1) * 6+j - 6=k * 6+j by omega]
  exact this
theorem agb {W:World}{base n:Nat}{v:Value}{L:List dN}(h:W.ownsRow base 49 6 v n (nI L))(hn:n=L.length){k:Nat}{x:dN}(hx:L[k]? =some x):∃g c,v= .slice (some ⟨g,0,none⟩) n c∧n≤c∧∀(j:Nat) (u:Value),(fK x)[j]? =some u→W.cell? ⟨g,k * 6+j,none⟩=some u:=by
 have hk:k < L.length:=(List.getElem?_eq_some_iff.1 hx).1
 rcases h.2 with⟨_,h0⟩ | ⟨g,cap,cur,rfl,_,hh,h1,_,h3,h4⟩
 ·omega
 ·refine⟨g,cap,rfl,h1,fun j u hu=>?_⟩
  have h5:=BK j hx hu
  have hj:j < 6:=(List.getElem?_eq_some_iff.1 hu).1
  rw[← h4,List.getElem?_take] at h5
  split at h5
  ·simp only[World.cell?,hh]
   simpa using h5
  ·cases h5
def aoQ (nm:List Nat)(lc:List ay)(xs:List dN):Prop:=∀(p o:Nat) (d:aJ),p∈bf lc→o < 256→gL p o=some d→d.1=1→d.2.1=nm→∃x,x∈xs∧x.1=(p,o)∧x.2.1=d
theorem acW (s:ByteArray)(A:Option Addr)(n c:Nat)(w:World):
 Calls Tryz.prog 35 #[.agg #[.string s,.slice A n c]] w fun e w'=>e= .returned (.func (.func 72) #[] #[.pointer (some ⟨w.heap.size,0,none⟩)])∧w.alloc (.cells #[.string s,.slice A n c] 24)=w':=by
 go_enter Tryz.func35,Tryz.ntmps35
 go_wp2
 go_ret
 exact⟨rfl,rfl⟩
structure CdW (w W:World)(nm:List Nat)(lc:List ay)(v:Value)(L:List dN):Prop where
 own:W.ownsRow w.heap.size 49 6 v L.length (nI L)
 ok:∀x,x∈L→bW w.heap.size W x∧x.1.1∈bf lc
 len:L.length≤1792
 all:aoQ nm lc L
theorem CdW.kp {w W W':World}{nm:List Nat}{lc:List ay}{v:Value}{L:List dN}(h:CdW w W nm lc v L)(hk:Ab w.heap.size W W'):CdW w W' nm lc v L:=⟨hk.own h.own (zu _),fun x hx=>⟨hk.jf (h.ok x hx).1 (zu _),(h.ok x hx).2⟩,h.len,h.all⟩
theorem at0 {w W0 W:World}{nm:List Nat}{lc:List ay}{v:Value}{L:List dN}(h:Aa W0 W nm (bf lc) v L (bf lc).length 0)(hs:w.heap.size≤W0.heap.size):CdW w W nm lc v L:=by
 refine⟨?_,fun x hx=>⟨(h.ok x hx).1.mono hs,(h.ok x hx).2⟩,by have:=h.len;have:=wV lc;omega,fun p o d hp ho hd hk hn=>?_⟩
 ·refine⟨h.own.1,h.own.2.imp id ?_⟩
  rintro ⟨g,cap,cur,p1,p2,p3⟩
  exact⟨g,cap,cur,p1,by omega,p3⟩
 ·obtain⟨j,hj⟩:=List.mem_iff_getElem?.1 hp
  exact h.all p o d (.inl ⟨j,(List.getElem?_eq_some_iff.1 hj).1,hj,ho⟩) hd hk hn
set_option maxRecDepth 100000 in
set_option maxHeartbeats 8000000 in
theorem acV (nm:List Nat)(hnm:nm∈dY)(lc:List ay)(hlc:lc.length≤3)(hv:∀o∈lc,nU o)(B:Nat)(A:Option Addr)(n5 c:Nat)(mK:n5=lc.length)(w:World)
 (hB:Bk w B 24 [.string (aa nm),.slice A n5 c]) (hr:Rd w (fun _=>True) A (bE lc)) (hG:gJ w):
 aua Fence.wide 2 Tryz.prog 72 #[.pointer (some ⟨B,0,none⟩)] (fun x:dN=>#[.agg (fK x).toArray]) (fun x W=>bW w.heap.size W x∧x.1.1∈bf lc) (Ab w.heap.size) (aoQ nm lc) (fun _=>True) w:=fun l J Jx W hW hJ hJx hY h0=>by
 have CP:Hid (∀W1,Below W.heap.size W W1→Calls Tryz.prog 74 #[.agg #[.string (aa nm),.slice A n5 c]] W1 fun e w'=>∃A' c',e= .returned (.slice A' (bf lc).length c')∧Rd w' (fun _=>True) A' (Jj (bf lc))∧Below W1.heap.size W1 w'):=fun W1 hb=>Uw (aa nm) A lc n5 c W1 _ mK (by omega) hv (hG.after (hW.trans (hb.mono hW.size))) (hr.after (hW.trans (hb.mono hW.size)))
 have CN:Hid (∀W1 A' c',Below W.heap.size W W1→Rd W1 (fun _=>True) A' (Jj (bf lc))→Calls Tryz.prog 73 #[.string (aa nm),.slice A' (bf lc).length c'] W1 fun e w'=>∃v L,e= .returned v∧Aa W1 w' nm (bf lc) v L (bf lc).length 0):=fun W1 A' c' hb r=>UN nm hnm (bf lc) (Ux lc) (sG lc) (wV lc) A' _ c' W1 _ rfl (hG.after (hW.trans (hb.mono hW.size))) r
 have K0:Hid (Bk W B 24 [.string (aa nm),.slice A n5 c]):=hB.after hW
 have x0:=K0.out.cell 0 rfl
 have x1:=K0.out.cell 1 rfl
 have HW:=zz hW
 have HJ:=zz (show ∀W1,Below W.heap.size W W1→J [] W1 from fun W1 hb=>hJ [] W _ none h0 (grownBy_below hb none) (fun r e=>by cases e))
 have HJA:=zz (show ∀pre W1 o,J pre W1→J pre (W1.alloc o) from fun pre W1 o h=>hJ pre W1 _ none h (World.grownBy_alloc W1 o none) (fun r e=>by cases e))
 have HYY:=zz hY
 clear hB hr hG hv hlc mK h0 hJ hJx hY hW
 refine callsIn_of_wp Tryz.func72 rfl trivial ?_ rfl
 simp only[Tryz.ntmps72,List.size_toArray,List.length_cons,List.length_nil,Nat.reduceAdd,Nat.reduceSub,Array.replicate_succ,Array.replicate_zero,List.push_toArray,List.append_toArray,List.nil_append,List.cons_append]
 have hmx:Tryz.prog.follows .mixedOrders=true:=by kernel_rfl
 have WV:Hid (Below W.heap.size W W.drew):=aM (zo _ _)
 have xd0:W.drew.cell? ⟨B,0,none⟩=some (.string (aa nm)):=x0
 have xd1:W.drew.cell? ⟨B,1,none⟩=some (.slice A n5 c):=x1
 gi_wp2
 gi_region_with_o (first
  |(refine⟨trivial,?_⟩;gi_at_call 74;refine (callsIn_wide.2 (CP.out _ WV.out)).mono ?_;rintro e W1 ⟨A1,c1,rfl,hr1,hb1⟩;have HB1:=zz (WV.out.trans (hb1.mono WV.out.size));have HR1:=zz hr1;have y0:=eB hb1 xd0;have y1:=eB hb1 xd1;clear hb1 hr1)
  |(refine⟨trivial,?_⟩;gi_at_call 73;refine (callsIn_wide.2 (CN.out _ _ _ HB1.out HR1.out)).mono ?_;rintro e W2 ⟨v,L,rfl,agW⟩;have HB2:=zz (HB1.out.trans (agW.bl.mono HB1.out.size));have H2:=zz (at0 agW (zt HW.out.size HB1.out.size));obtain⟨A2,c2,rfl,axI,_⟩:=jB agW.own;clear agW))
 all_goals
  have hLn:(L.length:Int)≤1792:=by
   have:=H2.out.len
   omega
  have HJ2:=zz (HJ.out W2 HB2.out)
  clear y0 y1 HB1 HR1 WV xd0 xd1 x0 x1 CP CN K0 axI
  gi_wp2
  gi_loopw [11] (fun v wr=>∃k:Nat,v= .int .i64 (k:Int)∧k≤L.length∧Hid (J (L.take k) wr)∧Hid (CdW w wr nm lc (.slice A2 L.length c2) L)) (fun v _=>L.length - (intOf v).toNat)
  case atStart=>exact⟨0,rfl,Nat.zero_le _,HJ2.out,H2.out⟩
  case round=>
   obtain⟨k,rfl,hk,hj,hw⟩:=hrel
   clear H2 HJ2 HB2
   by_cases hlt:k < L.length
   ·obtain⟨x,hx⟩:∃x,L[k]? =some x:=⟨_,List.getElem?_eq_getElem hlt⟩
    obtain⟨g,c3,hv,hc3,hcell⟩:=agb hw.out.own rfl hx
    obtain⟨rfl,rfl⟩:A2=some ⟨g,0,none⟩∧c2=c3:=by
     injection hv with a1 a2 a3
     exact⟨a1,a3⟩
    have HT:Hid (L.take (k+1)=L.take k++[x]):=by
     rw[Hid,List.take_add_one,hx]
     rfl
    have hok:=hw.out.ok x (List.mem_of_getElem? hx)
    clear hv hx
    obtain⟨⟨p,o⟩,d,A9,c9⟩:=x
    have q0:wr.cell? ⟨g,k * 6,none⟩=some (.int .i64 (p:Int)):=hcell 0 _ rfl
    have q1:=hcell 1 _ rfl
    have q2:=hcell 2 _ rfl
    have q3:=hcell 3 _ rfl
    have q4:=hcell 4 _ rfl
    have q5:=hcell 5 _ rfl
    have hBl:Below wr.heap.size wr (wr.alloc (.cells #[.int .i64 (p:Int),.int .u8 (o:Int),.string (aa d.2.1),.slice A9 (d.2.2.2.2.length / 3) c9,.string (aa d.2.2.1),.bool d.2.2.2.1] 49)):=(zo _ _).alloc (zu _) _
    have HW1:=zz (hw.out.kp (Ab.below hBl))
    have fE:Hid (Bk (wr.alloc (.cells #[.int .i64 (p:Int),.int .u8 (o:Int),.string (aa d.2.1),.slice A9 (d.2.2.2.2.length / 3) c9,.string (aa d.2.2.1),.bool d.2.2.2.1] 49)) wr.heap.size 49 [.int .i64 (p:Int),.int .u8 (o:Int),.string (aa d.2.1),.slice A9 (d.2.2.2.2.length / 3) c9,.string (aa d.2.2.1),.bool d.2.2.2.1]):=Bk.new wr _ _
    obtain⟨fn,tmps,assign,body,hy,hR⟩:=HYY.out (L.take k) ((p,o),d,A9,c9) (wr.alloc (.cells #[.int .i64 (p:Int),.int .u8 (o:Int),.string (aa d.2.1),.slice A9 (d.2.2.2.2.length / 3) c9,.string (aa d.2.2.1),.bool d.2.2.2.1] 49)) (HJA.out _ _ _ hj.out) ⟨hok.1.after hBl,hok.2⟩
    dsimp only[fK] at hy
    have z0:=fE.out.cell 0 rfl
    have z1:=fE.out.cell 1 rfl
    have z2:=fE.out.cell 2 rfl
    have z3:=fE.out.cell 3 rfl
    have z4:=fE.out.cell 4 rfl
    have z5:=fE.out.cell 5 rfl
    clear hcell hok hBl hj
    gi_wp2
    refine hR.mono ?_
    rintro e W3 (⟨rfl,hJ3,hk3⟩ | ⟨rfl,hJx3⟩)
    ·have HW3:=zz (HW1.out.kp hk3)
     rw[← HT.out] at hJ3
     have HJ3:=zz hJ3
     clear hJ3 hk3 z0 z1 z2 z3 z4 z5 q0 q1 q2 q3 q4 q5
     gi_wp2
     go_roundw
     case rel=>exact⟨k+1,by go_num,hlt,HJ3.out,HW3.out⟩
     case measure=>simp[intOf];omega
    ·have HJx:=zz hJx3
     clear hJx3
     gi_wp2
     refine bodyPost_ret (results_none rfl _ _ _) rfl ?_
     exact⟨⟨_,rfl⟩,.inr ⟨_,trivial,HJx.out⟩⟩
   ·have HX:=zz hj.out
    rw[List.take_of_length_le (by omega)] at HX
    gi_wp2
    go_end0
    exact⟨⟨_,rfl⟩,.inl ⟨L,hw.out.all,HX.out⟩⟩
end Go.Proofs.YtceaodnohnekkaaGreatDoor
namespace Go.Proofs.YtceaodnohnekkaaGreatDoor
open Go.RowKit Ex
theorem Dt:allT (fun _ _ d=>Nat.ble d.2.1.length 1000) 0 Ga=true:=by kernel_rfl
theorem xk {p o:Nat}{d:aJ}(hd:gL p o=some d):d.2.1.length≤1000:=Nat.le_of_ble_eq_true (gp (f:=fun _ _ d=>Nat.ble d.2.1.length 1000) Dt hd)
theorem aft {x:Nat}(h1:65≤x)(h2:x≤90):Aj (UInt8.ofNat x)=UInt8.ofNat x:=by
 unfold Aj
 have e:(UInt8.ofNat x).toNat=x:=by
  rw[UInt8.toNat_ofNat']
  omega
 rw[if_neg (by rw[e];omega)]
theorem age {nm:List Nat}(h:nm∈dY):∀x∈nm,65≤x∧x≤90:=fun x hx=>by
 have h1:=aV LQ h
 simp only[Bool.and_eq_true] at h1
 have h2:=h1.1
 cases hb:Nat.ble nm.length 4 with
 |false=>rw[hb] at h2;cases h2
 |true=>
  rw[hb] at h2
  have h3:=dZ (f:=fun x=>cond (Nat.ble 65 x) (Nat.ble x 90) false) h2 hx
  cases ha:Nat.ble 65 x with
  |false=>rw[ha] at h3;cases h3
  |true=>
   rw[ha] at h3
   exact⟨Nat.le_of_ble_eq_true ha,Nat.le_of_ble_eq_true h3⟩
theorem Oh {nm:List Nat}(h:∀x∈nm,65≤x∧x≤90):upS (aa nm)=aa nm:=by
 have e:(aa nm).data.toList.map Aj=(aa nm).data.toList:=by
  have e1:(aa nm).data.toList=nm.map UInt8.ofNat:=by simp[aa]
  rw[e1,List.map_map]
  exact List.map_congr_left fun x hx=>aft (h x hx).1 (h x hx).2
 unfold upS
 rw[e]
theorem ahu {nm:List Nat}(h:nm≠[]):aa nm≠⟨#[]⟩:=fun e=>by
 have:=congrArg ByteArray.size e
 rw[aA] at this
 exact h (List.eq_nil_of_length_eq_zero this)
def iX (x:dN):Value:=.agg (fK x).toArray
theorem Eg {B:Nat}{w:World}{x:dN}(h:bW B w x):Rd w (fun _=>True) x.2.2.1 (bE (opsL x.2.1.2.2.2.2))∧x.2.1.2.2.2.2.length / 3=(opsL x.2.1.2.2.2.2).length∧(opsL x.2.1.2.2.2.2).length≤3:=by
 obtain⟨e1,e2,e3⟩:=CX h.d
 have:=h.r.rd
 rw[e1] at this
 exact⟨this,e2.symm,e3⟩
theorem Aw {B:Nat}{w:World}{x:dN}(h:bW B w x)(s:ByteArray)(hs:s.size≤1000)(A5:Option Addr)(n5 c5:Nat)(lc:List ay)(mK:n5=lc.length)(hl:lc.length≤3)(hr:Rd w (fun _=>True) A5 (bE lc)):
 Calls Tryz.prog 36 #[iX x,.agg #[.string s,.slice A5 n5 c5]] w fun e w'=>e= .returned (.bool (bK (aa x.2.1.2.1) s (opsL x.2.1.2.2.2.2) lc))∧Below w.heap.size w w':=by
 obtain⟨h1,h2,h3⟩:=Eg h
 have:=xk h.d
 exact Lp _ _ (aa x.2.1.2.1) s _ _ x.2.2.1 A5 (opsL x.2.1.2.2.2.2) lc _ n5 x.2.2.2 c5 w _ _ (by rw[aA];omega) hs h2 mK (by omega) (by omega) h1 hr
def Vm (d:aJ)(lc:List ay):Value:=Ju (nE (mP d) (oW d) (opsL d.2.2.2.2) lc) (takeN (mP d) lc) (takeN (oW d) (eT (mP d) lc))
theorem R4 {w0 w:World}(hG:gJ w0)(hb0:Below w0.heap.size w0 w){x:dN}(h:bW w0.heap.size w x){nm:List Nat}(hnm:nm∈dY)(A5:Option Addr)(n5 c5:Nat)(lc:List ay)(mK:n5=lc.length)(hl:lc.length≤3)(hr:Rd w (fun _=>True) A5 (bE lc))(hs:bK (aa x.2.1.2.1) (aa nm) (opsL x.2.1.2.2.2.2) lc=true):
 Calls Tryz.prog 37 #[iX x,.agg #[.string (aa nm),.slice A5 n5 c5]] w fun e w'=>e= .returned (Vm x.2.1 lc)∧Below w.heap.size w w':=by
 obtain⟨h1,h2,h3⟩:=Eg h
 have hF:=jo h.d h.k
 have hs':=of_decide_eq_true hs
 have hcap:=age hnm
 have hlen:nm.length≤1000:=by
  have:=xk h.d
  have e:=congrArg ByteArray.size hs'.1
  rw[aA,aA] at e
  omega
 have hne:nm≠[]:=fun e=>by
  subst e
  have:=aV LQ hnm
  cases this
 have C1:∀W,Below w.heap.size w W→Calls Tryz.prog 36 #[iX x,.agg #[.string (aa nm),.slice A5 n5 c5]] W fun e w'=>e= .returned (.bool true)∧Below W.heap.size W w':=fun W hb=>by
  have:=Aw (h.after hb) (aa nm) (by rw[aA];omega) A5 n5 c5 lc mK hl (hr.after hb)
  rwa [hs] at this
 have C3:ahH w 78 (iX x) (mP x.2.1):=fun W hb=>(Cq hG (hb0.trans (hb.mono hb0.size)) h.d h.k (h.r.after hb)).1.mono fun _ _ ⟨i,f,t,q1,q2,q3⟩=>⟨i,f,t,q1,q2.1,q3⟩
 have C4:ahH w 79 (iX x) (oW x.2.1):=fun W hb=>(Cq hG (hb0.trans (hb.mono hb0.size)) h.d h.k (h.r.after hb)).2.mono fun _ _ ⟨i,f,t,q1,q2,q3⟩=>⟨i,f,t,q1,q2.1,q3⟩
 have hll:(opsL x.2.1.2.2.2.2).length=lc.length:=r9 hs'.2
 unfold iX fK at C1 C3 C4 ⊢
 rw[hs'.1] at C1 C3 C4 ⊢
 exact acb _ _ (aa nm) _ _ x.2.2.1 A5 (opsL x.2.1.2.2.2.2) lc _ n5 x.2.2.2 c5 w _ _ (mP x.2.1) (oW x.2.1) (by rw[aA];omega) (Oh hcap) (ahu hne) h2 mK h3 hl hll (fun y hy=>(hF.vd y hy).1) (fun y hy=>(hF.vn y hy).1) h1 hr C1 C3 C4
end Go.Proofs.YtceaodnohnekkaaGreatDoor
namespace Go.Proofs.YtceaodnohnekkaaGreatDoor
open Go.RowKit Go.Shelf Ex
attribute [local go_sem] Oper.semAt_some
def za (s:ByteArray)(lc:List ay)(pre:List dN)(code:Int):Prop:=
 (code=11∧∀x∈pre,bB s lc x.2.1=false)∨(code=2∧(∃x∈pre,bB s lc x.2.1=true∧gL x.1.1 x.1.2=some x.2.1∧x.1.1≤6∧x.1.2 < 256)∧∀x∈pre,fZ s lc x.2.1=false)
theorem XU (s:ByteArray)(lc:List ay):za s lc [] 11:=.inl ⟨rfl,fun x hx=>by cases hx⟩
theorem afP {s:ByteArray}{lc:List ay}{pre:List dN}{code:Int}{x:dN}(h:za s lc pre code)(hm:bB s lc x.2.1=false):za s lc (pre++[x]) code:=by
 rcases h with⟨rfl,h⟩ | ⟨rfl,⟨y,hy,h1⟩,h⟩
 ·refine .inl ⟨rfl,fun z hz=>?_⟩
  rcases List.mem_append.1 hz with hz | hz
  ·exact h z hz
  ·rw[List.mem_singleton.1 hz];exact hm
 ·refine .inr ⟨rfl,⟨y,List.mem_append_left _ hy,h1⟩,fun z hz=>?_⟩
  rcases List.mem_append.1 hz with hz | hz
  ·exact h z hz
  ·rw[List.mem_singleton.1 hz];exact oJ hm
theorem XT {s:ByteArray}{lc:List ay}{pre:List dN}{code:Int}{x:dN}(h:za s lc pre code)(hm:bB s lc x.2.1=true)(hf:fZ s lc x.2.1=false)(hd:gL x.1.1 x.1.2=some x.2.1)(hp:x.1.1≤6)(ho:x.1.2 < 256):za s lc (pre++[x]) 2:=by
 refine .inr ⟨rfl,⟨x,List.mem_append_right _ (List.mem_singleton.2 rfl),hm,hd,hp,ho⟩,fun z hz=>?_⟩
 rcases List.mem_append.1 hz with hz | hz
 ·rcases h with⟨_,h⟩ | ⟨_,_,h⟩
  ·exact oJ (h z hz)
  ·exact h z hz
 ·rw[List.mem_singleton.1 hz];exact hf
theorem BU {l m:List Nat}(hl:∀x∈l,x < 256)(hm:∀x∈m,x < 256)(h:aa l=aa m):l=m:=q9 hl hm (by
 rw[← lq,h]
 exact beq_self_eq_true _)
theorem Lv {nm:List Nat}(hnm:∀x∈nm,x < 256){lc:List ay}(hv:∀o∈lc,nU o){xs:List dN}(hall:aoQ nm lc xs){code:Int}(h:za (aa nm) lc xs code):nV (aa nm) lc code:=by
 have key:∀(p o:Nat) (d:aJ),p≤6→o < 256→gL p o=some d→bB (aa nm) lc d=true→∃x∈xs,x.2.1=d:=fun p o d hp ho hd hm=>by
  obtain⟨h1,_,h3,_⟩:=fP hm
  obtain⟨x,hx,_,hxd⟩:=hall p o d (xw hv hp hd hm).1 ho hd h1 (BU (jh hd).2.2.2 hnm h3)
  exact⟨x,hx,hxd⟩
 rcases h with⟨rfl,h⟩ | ⟨rfl,⟨y,hy,h1,h2,h3,h4⟩,h⟩
 ·refine .inr (.inr ⟨rfl,fun p o d hp ho hd=>?_⟩)
  cases hm:bB (aa nm) lc d with
  |false=>rfl
  |true=>
   obtain⟨x,hx,rfl⟩:=key p o d hp ho hd hm
   rw[h x hx] at hm
   cases hm
 ·refine .inr (.inl ⟨rfl,⟨_,_,_,h3,h4,h2,h1⟩,fun p o d hp ho hd=>?_⟩)
  cases hm:fZ (aa nm) lc d with
  |false=>rfl
  |true=>
   obtain⟨x,hx,rfl⟩:=key p o d hp ho hd (fV hm)
   rw[h x hx] at hm
   cases hm
section
variable {W W':World} {row:Option Nat}
theorem lM {b:Nat}{T:TypeId}{vs:List Value}(h:Bk W b T vs)(hg:W.grownBy W' row)(hr:∀r,row=some r→∃o:Obj,W.heap[r]? =some o∧o.isCells=false):Bk W' b T vs:=(hg.block b h.lt fun e=>by
 obtain⟨o,ho,hc⟩:=hr b e.symm
 have h':W.heap[b]? =some (.cells vs.toArray T (0,0)):=h
 rw[h'] at ho
 obtain rfl:=zx ho
 cases hc).trans h
theorem NP {w:World}{p:Addr}{v:Value}(h:w.cell? p=some v):∃cur T f,w.heap[p.block]? =some (.cells cur T f):=by
 unfold World.cell? at h
 split at h
 ·rename_i e
  exact⟨_,_,_,e⟩
 ·cases h
theorem aga {p:Nat→Prop}{A:Option Addr}{xs:List Value}(h:Rd W p A xs)(hg:W.grownBy W' row)(hr:∀r,row=some r→∃o:Obj,W.heap[r]? =some o∧o.isCells=false):Rd W' p A xs:=fun hx=>by
 obtain⟨ad,e,hp,hc⟩:=h hx
 refine⟨ad,e,hp,fun j u hu=>hg.cell (hc j u hu) fun e=>?_⟩
 obtain⟨cur,T,f,h1⟩:=NP (hc j u hu)
 obtain⟨o,ho,hn⟩:=hr _ e.symm
 rw[h1] at ho
 obtain rfl:=zx ho
 cases hn
theorem FT {B:Nat}{x:dN}(h:bW B W x)(hg:W.grownBy W' row)(hr:∀r,row=some r→∃o:Obj,W.heap[r]? =some o∧o.isCells=false):bW B W' x:=by
 refine⟨h.d,h.k,h.o,?_⟩
 rcases h.r with h | ⟨h0,q,m,cur,h1,h2,hh,h'⟩
 ·exact .inl h
 ·refine .inr ⟨h0,q,m,cur,h1,h2,(hg.block q (lt_of_heap hh) fun e=>?_).trans hh,h'⟩
  obtain⟨o,ho,hn⟩:=hr q e.symm
  rw[hh] at ho
  obtain rfl:=zx ho
  cases hn
end
def nT (B:Nat)(W W':World):Prop:=W.heap.size≤W'.heap.size∧∀k,B≤k→k < W.heap.size→W'.heap[k]? =W.heap[k]?
theorem nT.trans {B:Nat}{X Y Z:World}(h:nT B X Y)(k:nT B Y Z):nT B X Z:=⟨zt h.1 k.1,fun i h1 h2=>(k.2 i h1 (zq h2 h.1)).trans (h.2 i h1 h2)⟩
theorem nT.below {B:Nat}{W W':World}(h:Below W.heap.size W W'):nT B W W':=⟨h.size,fun k _ hk=>h.block k hk⟩
theorem nT.set {B:Nat}(W:World)(p:Addr)(u:Value)(hp:p.block < B):nT B W (W.setCell p u):=⟨by simp,fun k hk _=>Below.heap_setCell W p u k (by omega)⟩
theorem nT.from {B:Nat}{W W':World}(h:nT B W W'):KeepsFrom B W W':=⟨h.1,fun k _ hB ho _=>(h.2 k hB (lt_of_heap ho)).trans ho⟩
theorem nT.e {B:Nat}{W W':World}(h:nT B W W'):Ab B W W':=⟨h.1,fun k _ hB ho _=>(h.2 k hB (lt_of_heap ho)).trans ho⟩
structure WY (w W:World)(b2 b3:Nat)(nm:List Nat)(b5:Nat)(A5:Option Addr)(n5 c5:Nat)(lc:List ay)(b6:Nat)(code:Int):Prop where
 k2:Bk W b2 49 [.int .i64 0,.int .u8 0,.string ⟨#[]⟩,.slice none 0 0,.string ⟨#[]⟩,.bool false]
 k3:Bk W b3 27 [.int .i64 0]
 k5:Bk W b5 24 [.string (aa nm),.slice A5 n5 c5]
 k6:Bk W b6 27 [.int .i64 code]
 r5:Rd W (fun i=>i < b5) A5 (bE lc)
 bl:Below w.heap.size w W
theorem WY.after {w W W':World}{b2 b3:Nat}{nm:List Nat}{b5:Nat}{A5:Option Addr}{n5 c5:Nat}{lc:List ay}{b6:Nat}{code:Int}(h:WY w W b2 b3 nm b5 A5 n5 c5 lc b6 code)(hb:Below W.heap.size W W'):WY w W' b2 b3 nm b5 A5 n5 c5 lc b6 code:=⟨h.k2.after hb,h.k3.after hb,h.k5.after hb,h.k6.after hb,h.r5.after hb,h.bl.trans (hb.mono h.bl.size)⟩
theorem WY.own {w W W':World}{row:Option Nat}{b2 b3:Nat}{nm:List Nat}{b5:Nat}{A5:Option Addr}{n5 c5:Nat}{lc:List ay}{b6:Nat}{code:Int}(h:WY w W b2 b3 nm b5 A5 n5 c5 lc b6 code)(hg:W.grownBy W' row)(hr:∀r,row=some r→w.heap.size≤r∧∃o:Obj,W.heap[r]? =some o∧o.isCells=false):WY w W' b2 b3 nm b5 A5 n5 c5 lc b6 code:=
 ⟨lM h.k2 hg fun r e=>(hr r e).2,lM h.k3 hg fun r e=>(hr r e).2,lM h.k5 hg fun r e=>(hr r e).2,lM h.k6 hg fun r e=>(hr r e).2,aga h.r5 hg fun r e=>(hr r e).2,h.bl.grown hg h.bl.size fun k e=>(hr k e).1⟩
theorem WY.two {w W:World}{b2 b3:Nat}{nm:List Nat}{b5:Nat}{A5:Option Addr}{n5 c5:Nat}{lc:List ay}{b6:Nat}{code:Int}(h:WY w W b2 b3 nm b5 A5 n5 c5 lc b6 code)(h2:b2≠b6)(h3:b3≠b6)(h5:b5 < b6)(hw:w.heap.size≤b6)(z:Int):WY w (W.setCell ⟨b6,0,none⟩ (.int .i64 z)) b2 b3 nm b5 A5 n5 c5 lc b6 z:=
 ⟨h.k2.other h2 _,h.k3.other h3 _,h.k5.other (by show b5≠b6;omega) _,h.k6.set 0 _,h.r5.keep fun i _ hi=>Below.heap_setCell W ⟨b6,0,none⟩ _ i (by show i≠b6;omega),h.bl.setCell hw _⟩
theorem mh {B:Nat}{W:World}{x:dN}(h:bW B W x){p:Addr}(hp:p.block < B)(u:Value):bW B (W.setCell p u) x:=by
 refine⟨h.d,h.k,h.o,?_⟩
 rcases h.r with h | ⟨h0,q,m,cur,h1,h2,hh,h'⟩
 ·exact .inl h
 ·exact .inr ⟨h0,q,m,cur,h1,h2,(Below.heap_setCell W p u q (by omega)).trans hh,h'⟩
structure FdX (w W:World)(b2 b3:Nat)(nm:List Nat)(lc:List ay)(x:dN):Prop where
 k2:Bk W b2 49 (fK x)
 k3:Bk W b3 27 [.int .i64 0]
 e:bW w.heap.size W x
 p:x.1.1≤6
 f:fZ (aa nm) lc x.2.1=true
 bl:Below w.heap.size w W
theorem FdX.own {w W W':World}{row:Option Nat}{b2 b3:Nat}{nm:List Nat}{lc:List ay}{x:dN}(h:FdX w W b2 b3 nm lc x)(hg:W.grownBy W' row)(hr:∀r,row=some r→w.heap.size≤r∧∃o:Obj,W.heap[r]? =some o∧o.isCells=false):FdX w W' b2 b3 nm lc x:=
 ⟨lM h.k2 hg fun r e=>(hr r e).2,lM h.k3 hg fun r e=>(hr r e).2,FT h.e hg fun r e=>(hr r e).2,h.p,h.f,h.bl.grown hg h.bl.size fun k e=>(hr k e).1⟩
def fdS (W:World)(b2 b3:Nat)(x:dN):World:=(((((((W.setCell ⟨b2,0,none⟩ (.int .i64 (x.1.1:Int))).setCell ⟨b2,1,none⟩ (.int .u8 (x.1.2:Int))).setCell ⟨b2,2,none⟩ (.string (aa x.2.1.2.1))).setCell ⟨b2,3,none⟩ (.slice x.2.2.1 (x.2.1.2.2.2.2.length / 3) x.2.2.2)).setCell ⟨b2,4,none⟩ (.string (aa x.2.1.2.2.1))).setCell ⟨b2,5,none⟩ (.bool x.2.1.2.2.2.1)).setCell ⟨b3,0,none⟩ (.int .i64 0))
theorem acs {w W:World}{B b2 b3:Nat}{nm:List Nat}{b5:Nat}{A5:Option Addr}{n5 c5:Nat}{lc:List ay}{b6:Nat}{code:Int}{x:dN}(h:WY w W b2 b3 nm b5 A5 n5 c5 lc b6 code)(hne:b3≠b2)(h2:b2 < B)(h3:b3 < B)(hw2:w.heap.size≤b2)(hw3:w.heap.size≤b3)(hB:w.heap.size≤B)(hE:bW B W x)(hp:x.1.1≤6)(hf:fZ (aa nm) lc x.2.1=true):FdX w (fdS W b2 b3 x) b2 b3 nm lc x∧nT B W (fdS W b2 b3 x):=by
 have k2:=(((((h.k2.set 0 (.int .i64 (x.1.1:Int))).set 1 (.int .u8 (x.1.2:Int))).set 2 (.string (aa x.2.1.2.1))).set 3 (.slice x.2.2.1 (x.2.1.2.2.2.2.length / 3) x.2.2.2)).set 4 (.string (aa x.2.1.2.2.1))).set 5 (.bool x.2.1.2.2.2.1)
 have k3:=((((((h.k3.other (p:=⟨b2,0,none⟩) hne (.int .i64 (x.1.1:Int))).other (p:=⟨b2,1,none⟩) hne (.int .u8 (x.1.2:Int))).other (p:=⟨b2,2,none⟩) hne (.string (aa x.2.1.2.1))).other (p:=⟨b2,3,none⟩) hne (.slice x.2.2.1 (x.2.1.2.2.2.2.length / 3) x.2.2.2)).other (p:=⟨b2,4,none⟩) hne (.string (aa x.2.1.2.2.1))).other (p:=⟨b2,5,none⟩) hne (.bool x.2.1.2.2.2.1)).set 0 (.int .i64 0)
 refine⟨⟨k2.other (p:=⟨b3,0,none⟩) (Ne.symm hne) _,k3,?_,hp,hf,?_⟩,?_⟩
 ·exact (mh (mh (mh (mh (mh (mh (mh hE (p:=⟨b2,0,none⟩) h2 _) (p:=⟨b2,1,none⟩) h2 _) (p:=⟨b2,2,none⟩) h2 _) (p:=⟨b2,3,none⟩) h2 _) (p:=⟨b2,4,none⟩) h2 _) (p:=⟨b2,5,none⟩) h2 _) (p:=⟨b3,0,none⟩) h3 _).mono hB
 ·exact ((((((h.bl.setCell hw2 _).setCell hw2 _).setCell hw2 _).setCell hw2 _).setCell hw2 _).setCell hw2 _).setCell hw3 _
 ·exact ((((((nT.set _ _ _ h2).trans (nT.set _ _ _ h2)).trans (nT.set _ _ _ h2)).trans (nT.set _ _ _ h2)).trans (nT.set _ _ _ h2)).trans (nT.set _ _ _ h2)).trans (nT.set _ _ _ h3)
def fdZ (W:World)(b2:Nat):World:=((((((W.setCell ⟨b2,0,none⟩ (.int .i64 0)).setCell ⟨b2,1,none⟩ (.int .u8 0)).setCell ⟨b2,2,none⟩ (.string ⟨#[]⟩)).setCell ⟨b2,3,none⟩ (.slice none 0 0)).setCell ⟨b2,4,none⟩ (.string ⟨#[]⟩)).setCell ⟨b2,5,none⟩ (.bool false))
theorem p9 {W:World}{b2 b:Nat}{T:TypeId}{vs:List Value}(h:Bk W b T vs)(hne:b≠b2):Bk (fdZ W b2) b T vs:=(((((h.other (p:=⟨b2,0,none⟩) hne _).other (p:=⟨b2,1,none⟩) hne _).other (p:=⟨b2,2,none⟩) hne _).other (p:=⟨b2,3,none⟩) hne _).other (p:=⟨b2,4,none⟩) hne _).other (p:=⟨b2,5,none⟩) hne _
theorem ahc {w W:World}{B b2 b3:Nat}{nm:List Nat}{b5:Nat}{A5:Option Addr}{n5 c5:Nat}{lc:List ay}{b6:Nat}{code:Int}(h:WY w W b2 b3 nm b5 A5 n5 c5 lc b6 code)(hne:b3≠b2)(h2:b2 < B)(h3:b3 < B)(hw2:w.heap.size≤b2)(hw3:w.heap.size≤b3):
 Bk ((fdZ W b2).setCell ⟨b3,0,none⟩ (.int .i64 code)) b2 49 [.int .i64 0,.int .u8 0,.string ⟨#[]⟩,.slice none 0 0,.string ⟨#[]⟩,.bool false]∧Bk ((fdZ W b2).setCell ⟨b3,0,none⟩ (.int .i64 code)) b3 27 [.int .i64 code]∧Below w.heap.size w ((fdZ W b2).setCell ⟨b3,0,none⟩ (.int .i64 code))∧nT B W ((fdZ W b2).setCell ⟨b3,0,none⟩ (.int .i64 code)):=by
 have k2:=(((((h.k2.set 0 (.int .i64 0)).set 1 (.int .u8 0)).set 2 (.string ⟨#[]⟩)).set 3 (.slice none 0 0)).set 4 (.string ⟨#[]⟩)).set 5 (.bool false)
 refine⟨k2.other (p:=⟨b3,0,none⟩) (Ne.symm hne) _,(p9 h.k3 hne).set 0 _,?_,?_⟩
 ·exact ((((((h.bl.setCell hw2 _).setCell hw2 _).setCell hw2 _).setCell hw2 _).setCell hw2 _).setCell hw2 _).setCell hw3 _
 ·exact ((((((nT.set _ _ _ h2).trans (nT.set _ _ _ h2)).trans (nT.set _ _ _ h2)).trans (nT.set _ _ _ h2)).trans (nT.set _ _ _ h2)).trans (nT.set _ _ _ h2)).trans (nT.set _ _ _ h3)
theorem DW (s:ByteArray)(lc:List ay)(d:aJ)(h:bB s lc d=true):fZ s lc d=sU d.2.2.1 (opsL d.2.2.2.2) lc:=by
 unfold fZ
 rw[h];rfl
theorem agd {nm:List Nat}(h:nm∈dY):nm.length≤4:=by
 have h1:=aV LQ h
 simp only[Bool.and_eq_true] at h1
 cases hb:Nat.ble nm.length 4 with
 |true=>exact Nat.le_of_ble_eq_true hb
 |false=>
  have h2:=h1.1
  rw[hb] at h2
  cases h2
def fdA (w:World)(nm:List Nat)(A:Option Addr)(n c:Nat)(b5:Nat)(A5:Option Addr)(n5 c5:Nat)(v:Value)(Bx:Nat):Act:={ tmps:=#[.agg #[.string (aa nm),.slice A n c],.pointer (some ⟨w.heap.size,0,none⟩),.pointer (some ⟨w.heap.size+1,0,none⟩),.pointer (some ⟨w.heap.size+1+1,0,none⟩),.int .i64 0,.pointer (some ⟨b5,0,none⟩),.pointer (some ⟨b5+1,0,none⟩),.pointer (some ⟨Bx,0,none⟩),undef,undef,undef,.agg #[.string (aa nm),.slice A n c],.int .i64 0,.int .i64 0,.bool false,undef,undef,.agg #[.string (aa nm),.slice A n c],.agg #[.string (aa nm),.slice A5 n5 c5],.agg #[.string (aa nm),.slice A5 n5 c5],.func (.func 72) #[] #[.pointer (some ⟨b5+1+1,0,none⟩)],v,undef,undef,undef,undef,undef,undef,undef,undef,undef,undef,undef,undef,undef,undef,undef,undef,undef,undef,undef],defers:=[]}
theorem acr {w w1 w2:World}{b2 b3:Nat}{nm:List Nat}{A5:Option Addr}{n5 c5:Nat}{lc:List ay}(h2:Bk w1 b2 49 [.int .i64 0,.int .u8 0,.string ⟨#[]⟩,.slice none 0 0,.string ⟨#[]⟩,.bool false])(h3:Bk w1 b3 27 [.int .i64 0])(hb1:Below w.heap.size w w1)(hb:Below w1.heap.size w1 w2)(hr:Rd w2 (fun _=>True) A5 (bE lc)):
 WY w (((w2.alloc (.cells #[.string (aa nm),.slice A5 n5 c5] 24)).alloc (.cells #[.int .i64 11] 27)).alloc (.cells #[.string (aa nm),.slice A5 n5 c5] 24)) b2 b3 nm w2.heap.size A5 n5 c5 lc (w2.heap.size+1) 11:=by
 have a1:=(zo w2.heap.size w2).alloc (zu _) (.cells #[.string (aa nm),.slice A5 n5 c5] 24)
 have a2:=(zo _ (w2.alloc (.cells #[.string (aa nm),.slice A5 n5 c5] 24))).alloc (zu _) (.cells #[.int .i64 11] 27)
 have a3:=(zo _ ((w2.alloc (.cells #[.string (aa nm),.slice A5 n5 c5] 24)).alloc (.cells #[.int .i64 11] 27))).alloc (zu _) (.cells #[.string (aa nm),.slice A5 n5 c5] 24)
 have k6:=Bk.new (w2.alloc (.cells #[.string (aa nm),.slice A5 n5 c5] 24)) 27 [.int .i64 11]
 rw[World.size_alloc] at k6
 refine⟨(((h2.after hb).after a1).after a2).after a3,(((h3.after hb).after a1).after a2).after a3,((Bk.new w2 _ _).after a2).after a3,k6.after a3,(((hr.mono (q:=fun i=>i < w2.heap.size) fun i hi _=>hi).after a1).after a2).after a3,?_⟩
 have s1:=hb1.trans (hb.mono hb1.size)
 have s2:=s1.trans (a1.mono s1.size)
 have s3:=s2.trans (a2.mono s2.size)
 exact s3.trans (a3.mono s3.size)
set_option maxRecDepth 100000 in
set_option maxHeartbeats 2000000 in
theorem Vo (nm:List Nat)(hnm:nm∈dY)(A:Option Addr)(l:List ay)(n c:Nat)(w:World)(p:Nat→Prop)(hG:gJ w)(hn:l.length=n)(hm:l.length≤3)(h64:∀o∈l,mQ o)(h:Rd w p A (bE l))(hok:eF (aa nm) l=0):
 Calls Tryz.prog 15 #[.agg #[.string (aa nm),.slice A n c]] w fun e w'=>∃code E,e= .returned (.tuple #[E,.int .i64 code])∧(code≠0→E= .agg #[.int .i64 0,.int .u8 0,.string ⟨#[]⟩,.slice none 0 0,.string ⟨#[]⟩,.bool false])∧nV (aa nm) (aK nm l) code∧(code=0→∃x,E=iX x∧bW w.heap.size w' x∧x.1.1≤6∧fZ (aa nm) (aK nm l) x.2.1=true)∧Below w.heap.size w w':=by
 have hbyte:=kK hnm
 have hl5:(aK nm l).length≤3:=l5 nm l hm
 have hval:=(nK hok).2.2
 have hidx:=yQ (nm:=nm) hval
 have CC:Hid (∀W,Below w.heap.size w W→Calls Tryz.prog 33 #[.agg #[.string (aa nm),.slice A n c]] W fun e w'=>e= .returned (.int .i64 0)∧Below W.heap.size W w'):=fun W hb=>by
  have:=BQ (aa nm) A l n c W p (hG.after hb) hn (by omega) h64 (h.after hb)
  rw[hok] at this
  exact this
 have N9:∀W,Below w.heap.size w W→_:=fun W (hb:Below w.heap.size w W)=>BR nm hbyte A l n c W p hn.symm hm (fun o ho=>(h64 o ho).2.2) (h.after hb) (EU hbyte (hG.after hb))
 obtain⟨lc,hlc⟩:∃lc,aK nm l=lc:=⟨_,rfl⟩
 rw[hlc] at hl5 hidx N9 ⊢
 clear hlc
 obtain⟨n5,mK⟩:∃n5,lc.length=n5:=⟨_,rfl⟩
 rw[mK] at N9
 have CO:Hid (∀W,Below w.heap.size w W→Calls Tryz.prog 34 #[.agg #[.string (aa nm),.slice A n c]] W fun e w'=>∃A' c',e= .returned (.agg #[.string (aa nm),.slice A' n5 c'])∧Ow w' W.heap.size A' lc∧Below W.heap.size W w'):=N9
 have CK:=zz (fun A5 c5 W=>acW (aa nm) A5 n5 c5 W)
 have HG:=zz hG
 have HX:=zz (zy hl5 (zy hidx (zy mK (zy hbyte hnm))))
 clear h hok h64 hG hval hidx hl5 mK hbyte hnm hm hn N9
 refine (callsIn_wide (n:=3)).1 ?_
 refine callsIn_of_wp_marks Tryz.func15 rfl trivial ?_ rfl
 simp only[Tryz.ntmps15,List.size_toArray,List.length_cons,List.length_nil,Nat.reduceAdd,Nat.reduceSub,Array.replicate_succ,Array.replicate_zero,List.push_toArray,List.append_toArray,List.nil_append,List.cons_append]
 have hmx:Tryz.prog.follows .mixedOrders=true:=by kernel_rfl
 have HA:Hid (∀o1 o2 o3:Obj,Below w.heap.size w (((w.alloc o1).alloc o2).alloc o3)):=fun o1 o2 o3=>(((zo _ _).alloc (zu _) _).alloc (by simp) _).alloc (by simp;omega) _
 have K1:Hid (∀o2 o3:Obj,Bk (((w.alloc (.cells #[.string (aa nm),.slice A n c] 24)).alloc o2).alloc o3) w.heap.size 24 [.string (aa nm),.slice A n c]):=fun o2 o3=>((Bk.new w _ _).alloc _).alloc _
 have K2:Hid (∀o1 o3:Obj,Bk (((w.alloc o1).alloc (.cells #[.int .i64 0,.int .u8 0,.string ⟨#[]⟩,.slice none 0 0,.string ⟨#[]⟩,.bool false] 49)).alloc o3) (w.heap.size+1) 49 [.int .i64 0,.int .u8 0,.string ⟨#[]⟩,.slice none 0 0,.string ⟨#[]⟩,.bool false]):=fun o1 o3=>by
  have:=(Bk.new (w.alloc o1) 49 [.int .i64 0,.int .u8 0,.string ⟨#[]⟩,.slice none 0 0,.string ⟨#[]⟩,.bool false]).alloc o3
  rwa [World.size_alloc] at this
 have K3:Hid (∀o1 o2:Obj,Bk (((w.alloc o1).alloc o2).alloc (.cells #[.int .i64 0] 27)) (w.heap.size+1+1) 27 [.int .i64 0]):=fun o1 o2=>by
  have:=Bk.new ((w.alloc o1).alloc o2) 27 [.int .i64 0]
  rwa [World.size_alloc,World.size_alloc] at this
 gi_wp2_with (first
  |(refine⟨trivial,?_⟩;gi_at_call 33;refine (callsIn_wide.2 (CC.out _ (HA.out _ _ _))).mono ?_;rintro e w1 ⟨rfl,hb⟩;have L1:=zz ((K1.out _ _).after hb);have L2:=zz ((K2.out _ _).after hb);have L3:=zz ((K3.out _ _).after hb);have HB1:=zz ((HA.out _ _ _).trans (hb.mono (HA.out _ _ _).size));have y0:=L1.out.cell 0 rfl;have y1:=L1.out.cell 1 rfl;clear hb)
  |(refine⟨trivial,?_⟩;gi_at_call 34;refine (callsIn_wide.2 (CO.out _ HB1.out)).mono ?_;rintro e w2 ⟨A5,c5,rfl,ho,hb⟩;have HW:=zz (acr (nm:=nm) (n5:=n5) (c5:=c5) L2.out L3.out HB1.out hb (ho.rd.gz fun _ _=>trivial));have HS2:Hid (w.heap.size+3≤w2.heap.size):=zt (show w.heap.size+2 < _ from L3.out.lt) hb.size;clear hb ho)
  |(refine⟨trivial,?_⟩;gi_at_call 35;refine (callsIn_wide.2 (CK.out _ _ _)).mono ?_;rintro e w3 ⟨rfl,rfl⟩))
 clear CC CO CK K1 K2 K3 HA L1 L2 L3 y0 y1
 have HBc:Hid (Bk (((w2.alloc (.cells #[.string (aa nm),.slice A5 n5 c5] 24)).alloc (.cells #[.int .i64 11] 27)).alloc (.cells #[.string (aa nm),.slice A5 n5 c5] 24)) (w2.heap.size+1+1) 24 [.string (aa nm),.slice A5 n5 c5]):=by
  have:=Bk.new ((w2.alloc (.cells #[.string (aa nm),.slice A5 n5 c5] 24)).alloc (.cells #[.int .i64 11] 27)) 24 [.string (aa nm),.slice A5 n5 c5]
  rwa [World.size_alloc,World.size_alloc] at this
 have hs0:(((w2.alloc (.cells #[.string (aa nm),.slice A5 n5 c5] 24)).alloc (.cells #[.int .i64 11] 27)).alloc (.cells #[.string (aa nm),.slice A5 n5 c5] 24)).heap.size=w2.heap.size+1+1+1:=by simp
 obtain⟨b5,hb5⟩:∃b,w2.heap.size=b:=⟨_,rfl⟩
 rw[hb5] at HW HBc hs0 HS2 ⊢
 generalize (((w2.alloc (.cells #[.string (aa nm),.slice A5 n5 c5] 24)).alloc (.cells #[.int .i64 11] 27)).alloc (.cells #[.string (aa nm),.slice A5 n5 c5] 24))=W0 at HW HBc hs0 ⊢
 clear hb5 HB1
 have hs2:w.heap.size+3≤b5:=HS2.out
 have hG0:=HG.out.after HW.out.bl
 refine af3 (F:=Fence.wide) (n:=3) rfl (by omega) (gf:=72) (lb:=#[.pointer (some ⟨b5+1+1,0,none⟩)]) rfl trivial (enters_of Tryz.func72 (by kernel_rfl) rfl)
  (acV nm HX.out.2.2.2.2 lc HX.out.1 HX.out.2.1 (b5+1+1) A5 n5 c5 HX.out.2.2.1.symm W0 HBc.out (HW.out.r5.gz fun _ _=>trivial) hG0) (fun h k=>Ab.trans h k) (fun W l o o' _ hl ho _=>Ab.putObj W l o o' hl ho) (fun _=>rfl)
  (fun pre W=>∃code,za (aa nm) lc pre code∧WY w W (w.heap.size+1) (w.heap.size+1+1) nm b5 A5 n5 c5 lc (b5+1) code)
  (fun cc pre W=>cc= .ret∧∃x,FdX w W (w.heap.size+1) (w.heap.size+1+1) nm lc x)
  (fun s W W' row ⟨code,h1,h2⟩ hg hr=>⟨code,h1,h2.own hg fun r e=>⟨by have:=(hr r e).1;omega,(hr r e).2⟩⟩)
  (fun cc s W W' row ⟨h1,x,h2⟩ hg hr=>⟨h1,x,h2.own hg fun r e=>⟨by have:=(hr r e).1;omega,(hr r e).2⟩⟩)
  ⟨11,XU _ _,HW.out⟩
  (fun x a' W=>∃Bx,Bk W Bx 49 (fK x)∧bW W0.heap.size W x∧x.1.1∈bf lc∧a'=fdA w nm A n c b5 A5 n5 c5 (iX x) Bx)
  (fun x a' s W W' row ⟨Bx,h1,h2,h3,h4⟩ hg hr=>⟨Bx,lM h1 hg fun r e=>(hr r e).2,FT h2 hg fun r e=>(hr r e).2,h3,h4⟩)
  ?assign ?body ?done ?stop
 case assign=>
  rintro l pre x W K ⟨code,hs,hi⟩ ⟨hE,uG⟩ hK
  have ha:=(zo W.heap.size W).alloc (zu _) (.cells (fK x).toArray 49)
  have hk:=hK (fdA w nm A n c b5 A5 n5 c5 (iX x) W.heap.size) (W.alloc (.cells (fK x).toArray 49)) (nT.below ha).from (nT.below ha).e ⟨code,hs,hi.after ha⟩ ⟨W.heap.size,Bk.new W _ _,hE.after ha,uG,rfl⟩
  clear hK hi hE ha
  obtain⟨⟨p',o'⟩,d,A9,c9⟩:=x
  unfold fdA iX at hk
  dsimp only[fK] at hk ⊢
  gi_wp2
  exact hk
 case body=>
  rintro l pre x a' W ⟨code,hs,hi⟩ ⟨Bx,hBx,hE,uG,rfl⟩
  have hd1:1≤3 - 1 - 1:=by omega
  have hEw:bW w.heap.size W x:=hE.mono (by omega)
  have CS:=zz (Aw hEw (aa nm) (by rw[aA];have:=agd HX.out.2.2.2.2;omega) A5 n5 c5 lc HX.out.2.2.1.symm HX.out.1 (hi.r5.gz fun _ _=>trivial))
  have CF:Hid (bK (aa x.2.1.2.1) (aa nm) (opsL x.2.1.2.2.2.2) lc=true→∀W',Below W.heap.size W W'→Calls Tryz.prog 37 #[iX x,.agg #[.string (aa nm),.slice A5 n5 c5]] W' fun e w'=>e= .returned (Vm x.2.1 lc)∧Below W'.heap.size W' w'):=fun hs W' hb=>R4 HG.out (hi.after hb).bl (hEw.after hb) HX.out.2.2.2.2 A5 n5 c5 lc HX.out.2.2.1.symm HX.out.1 ((hi.after hb).r5.gz fun _ _=>trivial) hs
  have HM:Hid (bB (aa nm) lc x.2.1=(!x.2.1.2.2.2.1 && bK (aa x.2.1.2.1) (aa nm) (opsL x.2.1.2.2.2.2) lc)):=by
   show _=_
   unfold bB
   rw[hE.k]
   rfl
  have HFV:Hid (bB (aa nm) lc x.2.1=true→Vm x.2.1 lc=Ju (fZ (aa nm) lc x.2.1) (takeN (mP x.2.1) lc) (takeN (oW x.2.1) (eT (mP x.2.1) lc))):=fun h=>by
   rw[DW _ _ _ h,← xU (jo hE.d hE.k) (fP h).2.2.2]
   rfl
  have Xg:=zz (fun h=>afP (x:=x) hs h)
  have HS2:=zz (fun h h'=>XT (x:=x) hs h h' hE.d (sG _ _ uG) hE.o)
  have HI:=zz hi
  have HE:=zz (zy hE uG)
  have HBx:=zz hBx
  clear hs hi hEw hE uG hBx
  obtain⟨⟨p',o'⟩,d,A9,c9⟩:=x
  unfold fdA
  unfold iX at CS CF ⊢
  dsimp only[fK] at CS CF HBx ⊢
  dsimp only at HM HFV Xg HS2
  generalize takeN (mP d) lc=dv at HFV
  generalize takeN (oW d) (eT (mP d) lc)=nv at HFV
  generalize Vm d lc=fv at CF HFV
  obtain⟨mb,hmb⟩:∃mb,bB (aa nm) lc d=mb:=⟨_,rfl⟩
  have HFX:=zz (fun (h:fZ (aa nm) lc d=true)=>h)
  obtain⟨fb,kU⟩:∃fb,fZ (aa nm) lc d=fb:=⟨_,rfl⟩
  have HFB:=zz kU
  rw[hmb] at HM HFV Xg HS2
  rw[kU] at HFV HS2
  clear hmb kU HFX
  generalize bK (aa d.2.1) (aa nm) (opsL d.2.2.2.2) lc=sb at CS CF HM
  have x0:=HBx.out.cell 0 rfl
  have x1:=HBx.out.cell 1 rfl
  have x2:=HBx.out.cell 2 rfl
  have x3:=HBx.out.cell 3 rfl
  have x4:=HBx.out.cell 4 rfl
  have x5:=HBx.out.cell 5 rfl
  have z0:=HI.out.k5.cell 0 rfl
  have z1:=HI.out.k5.cell 1 rfl
  generalize hal:d.2.2.2.1=al at CS CF HM HBx x5
  cases al
  ·cases sb
   ·have hm:mb=false:=by rw[HM.out];rfl
    subst hm
    have HS:=zz (Xg.out rfl)
    clear HFV HS2 Xg HM CF HFB
    gi_wp2_with (refine⟨trivial,?_⟩;gi_at_call 36;refine (CallsIn.inRound l (callsIn_wide.2 CS.out)).mono ?_;rintro e W1 ⟨rfl,hb⟩;have HB:=zz hb;clear hb)
    exact⟨(nT.below HB.out).from,(nT.below HB.out).e,code,HS.out,HI.out.after HB.out⟩
   ·have hm:mb=true:=by rw[HM.out];rfl
    subst hm
    have hfv:=HFV.out rfl
    subst hfv
    have CFe:=zz (CF.out rfl)
    clear HFV Xg HM CF
    cases fb
    ·have HS:=zz (HS2.out rfl rfl)
     simp only[Ju,Bool.false_eq_true,if_false] at CFe
     clear HS2
     gi_wp2_with (first
      |(refine⟨trivial,?_⟩;gi_at_call 37;refine (CallsIn.inRound l (callsIn_wide.2 (CFe.out _ HB.out))).mono ?_;rintro e W2 ⟨rfl,hb⟩;have HB2:=zz (HB.out.trans (hb.mono HB.out.size));have HI2:=zz (HI.out.after HB2.out);have u6:=HI2.out.k6.cell 0 rfl;have f6:=HI2.out.k6.frozen 0;clear hb)
      |(refine⟨trivial,?_⟩;gi_at_call 36;refine (CallsIn.inRound l (callsIn_wide.2 CS.out)).mono ?_;rintro e W1 ⟨rfl,hb⟩;have HB:=zz hb;have qf:=zz (HBx.out.after hb);have HI1:=zz (HI.out.after hb);have y0:=qf.out.cell 0 rfl;have y1:=qf.out.cell 1 rfl;have y2:=qf.out.cell 2 rfl;have y3:=qf.out.cell 3 rfl;have y4:=qf.out.cell 4 rfl;have y5:=qf.out.cell 5 rfl;have v0:=HI1.out.k5.cell 0 rfl;have v1:=HI1.out.k5.cell 1 rfl;clear hb))
     have hk:=(nT.below (B:=W0.heap.size) HB2.out).trans (nT.set W2 ⟨b5+1,0,none⟩ (.int .i64 2) (by show b5+1 < _;omega))
     exact⟨hk.from,hk.e,2,HS.out,HI2.out.two (by omega) (by omega) (by omega) (by omega) 2⟩
    ·clear HS2
     simp only[Ju,if_true] at CFe
     gi_upto_region 11 with (first
      |(refine⟨trivial,?_⟩;gi_at_call 37;refine (CallsIn.inRound l (callsIn_wide.2 (CFe.out _ HB.out))).mono ?_;rintro e W2 ⟨rfl,hb⟩;have HB2:=zz (HB.out.trans (hb.mono HB.out.size));have HI2:=zz (HI.out.after HB2.out);have WU:=zz (qf.out.after hb);clear hb)
      |(refine⟨trivial,?_⟩;gi_at_call 36;refine (CallsIn.inRound l (callsIn_wide.2 CS.out)).mono ?_;rintro e W1 ⟨rfl,hb⟩;have HB:=zz hb;have qf:=zz (HBx.out.after hb);have HI1:=zz (HI.out.after hb);have y0:=qf.out.cell 0 rfl;have y1:=qf.out.cell 1 rfl;have y2:=qf.out.cell 2 rfl;have y3:=qf.out.cell 3 rfl;have y4:=qf.out.cell 4 rfl;have y5:=qf.out.cell 5 rfl;have v0:=HI1.out.k5.cell 0 rfl;have v1:=HI1.out.k5.cell 1 rfl;clear hb))
     clear x0 x1 x2 x3 x4 x5 y0 y1 y2 y3 y4 y5 v0 v1 z0 z1 CS CFe HI1 qf
     obtain⟨b2,hb2⟩:∃b,w.heap.size+1=b:=⟨_,rfl⟩
     obtain⟨b3,hb3⟩:∃b,b2+1=b:=⟨_,rfl⟩
     have hK2:=HI2.out.k2
     have hK3:=HI2.out.k3
     rw[hb2] at hK2 hK3
     rw[hb3] at hK3
     have hne:b3≠b2:=by omega
     have r0:=hK2.cell 0 rfl
     have r1:=hK2.cell 1 rfl
     have r2:=hK2.cell 2 rfl
     have r3:=hK2.cell 3 rfl
     have r4:=hK2.cell 4 rfl
     have r5:=hK2.cell 5 rfl
     have f0:=hK2.frozen 0
     have f1:=hK2.frozen 1
     have f2:=hK2.frozen 2
     have f3:=hK2.frozen 3
     have f4:=hK2.frozen 4
     have f5:=hK2.frozen 5
     have q0:=WU.out.cell 0 rfl
     have q1:=WU.out.cell 1 rfl
     have q2:=WU.out.cell 2 rfl
     have q3:=WU.out.cell 3 rfl
     have q4:=WU.out.cell 4 rfl
     have q5:=WU.out.cell 5 rfl
     have HC3:Hid (Bk ((((((W2.setCell ⟨b2,0,none⟩ (.int .i64 (p':Int))).setCell ⟨b2,1,none⟩ (.int .u8 (o':Int))).setCell ⟨b2,2,none⟩ (.string (aa d.2.1))).setCell ⟨b2,3,none⟩ (.slice A9 (d.2.2.2.2.length / 3) c9)).setCell ⟨b2,4,none⟩ (.string (aa d.2.2.1))).setCell ⟨b2,5,none⟩ (.bool false)) b3 27 [.int .i64 0]):=(((((hK3.other hne _).other hne _).other hne _).other hne _).other hne _).other hne _
     have u0:=HC3.out.cell 0 rfl
     have uf:=HC3.out.frozen 0
     have HHb:=zz (zy hb2 hb3)
     clear hK2 hK3 hne
     rw[hb2,hb3]
     gi_wp2
     have hX:=acs HI2.out (x:=((p',o'),d,A9,c9)) (B:=W0.heap.size) (by omega) (by omega) (by omega) (by omega) (by omega) (by omega) (HE.out.1.after HB2.out) (sG _ _ HE.out.2) HFB.out
     unfold fdS at hX
     dsimp only at hX
     rw[hal] at hX
     rw[← HHb.out.2,← HHb.out.1]
     exact⟨((nT.below HB2.out).trans hX.2).from,rfl,_,hX.1⟩
  ·have hm:mb=false:=by rw[HM.out];rfl
   subst hm
   have HS:=zz (Xg.out rfl)
   clear HFV HS2 Xg HM CF CS HFB
   gi_wp2
   refine⟨trivial,?_⟩
   gi_wp2
   exact⟨KeepsFrom.refl _ _,Ab.refl _ _,code,HS.out,HI.out⟩
 case done=>
  rintro D xs W hD hS ⟨code,hs,hi⟩ hK
  have HF:=zz (Lv HX.out.2.2.2.1 HX.out.2.1 hS hs)
  have HC0:Hid (code≠0):=by
   rcases hs with⟨rfl,_⟩ | ⟨rfl,_⟩ <;> exact fun e=>(by cases e)
  have HI:=zz (hi.after (aM (zo W.heap.size W)))
  have hKd:W.drew.heap[D]? =some (.deferred (some [])):=hK
  have HK:=zz hKd
  clear hs hi hS hK hKd
  obtain⟨b2,hb2⟩:∃b,w.heap.size+1=b:=⟨_,rfl⟩
  obtain⟨b3,hb3⟩:∃b,b2+1=b:=⟨_,rfl⟩
  rw[hb2,hb3] at HI
  rw[hb2,hb3]
  have HZ:=zz (ahc HI.out (B:=W0.heap.size) (by omega) (by omega) (by omega) (by omega) (by omega))
  have u6:=HI.out.k6.cell 0 rfl
  have r0:=HI.out.k2.cell 0 rfl
  have r1:=HI.out.k2.cell 1 rfl
  have r2:=HI.out.k2.cell 2 rfl
  have r3:=HI.out.k2.cell 3 rfl
  have r4:=HI.out.k2.cell 4 rfl
  have r5:=HI.out.k2.cell 5 rfl
  have f0:=HI.out.k2.frozen 0
  have f1:=HI.out.k2.frozen 1
  have f2:=HI.out.k2.frozen 2
  have f3:=HI.out.k2.frozen 3
  have f4:=HI.out.k2.frozen 4
  have f5:=HI.out.k2.frozen 5
  have c3:=(p9 (b2:=b2) HI.out.k3 (by omega)).cell 0 rfl
  have e3:=(p9 (b2:=b2) HI.out.k3 (by omega)).frozen 0
  have c6:=(p9 (b2:=b2) HI.out.k6 (by omega)).cell 0 rfl
  unfold fdZ at c3 e3 c6 HZ
  have HHb:=zz (zy hb2 hb3)
  clear HI
  gi_wp2
  rename_i K hKK
  refine wpIn_mono (Q:=Exit.then (fun a' w'=>a'.defers=[{ target:=.collected D,args:=#[]}]∧a'.tmps.getD 2 undef= .pointer (some ⟨b2,0,none⟩)∧a'.tmps.getD 3 undef= .pointer (some ⟨b3,0,none⟩)∧w'=((((((W.drew.setCell ⟨b2,0,none⟩ (.int .i64 0)).setCell ⟨b2,1,none⟩ (.int .u8 0)).setCell ⟨b2,2,none⟩ (.string ⟨#[]⟩)).setCell ⟨b2,3,none⟩ (.slice none 0 0)).setCell ⟨b2,4,none⟩ (.string ⟨#[]⟩)).setCell ⟨b2,5,none⟩ (.bool false)).setCell ⟨b3,0,none⟩ (.int .i64 code)) (fun _ _ _=>False)) ?reg ?post
  case reg=>
   clear hKK HZ HF HK HHb hG0 HW HBc HG HX
   refine wpIn_region_any hmx ?_
   change wpAnyIn _ _ _ _ _ _ _ _ _ (World.drew _)
   generalize W.drew=V at u6 r0 r1 r2 r3 r4 r5 c3 e3 c6 f0 f1 f2 f3 f4 f5 ⊢
   refine wpAnyIn_take (i:=0) (v:=.agg #[.int .i64 0,.int .u8 0,.string ⟨#[]⟩,.slice none 0 0,.string ⟨#[]⟩,.bool false]) rfl rfl (by kernel_rfl) (by kernel_rfl) (by kernel_rfl) (fun _ _ _ h=>h) ⟨Or.inl ⟨by rfl,?_⟩,fun _=>rfl⟩ ?_
   ·intro w;go_simp
   ·refine wpAnyIn_ready (rs:=[1,2]) (by kernel_rfl) (by simp) ?_
    refine AllReadyIn.cons rfl (fun K hK=>?_) (AllReadyIn.cons rfl (fun K hK=>?_) AllReadyIn.nil)
    ·go_simp
     refine hK _ _ ?_
     clear hK K
     refine wpAnyIn_ready (rs:=[2]) (by kernel_rfl) (by simp) (AllReadyIn.cons rfl (fun K hK=>?_) AllReadyIn.nil)
     go_simp
     refine hK _ _ ?_
     clear hK K
     refine wpAnyIn_ready (rs:=[3]) (by kernel_rfl) (by simp) (AllReadyIn.cons rfl (fun K hK=>?_) AllReadyIn.nil)
     go_simp
     refine hK _ _ ?_
     clear hK K
     refine wpAnyIn_done (by kernel_rfl) ?_ _
     exact⟨rfl,rfl,rfl,rfl⟩
    ·go_simp
     refine hK _ _ ?_
     clear hK K
     refine wpAnyIn_ready (rs:=[1]) (by kernel_rfl) (by simp) (AllReadyIn.cons rfl (fun K hK=>?_) AllReadyIn.nil)
     go_simp
     refine hK _ _ ?_
     clear hK K
     refine wpAnyIn_ready (rs:=[3]) (by kernel_rfl) (by simp) (AllReadyIn.cons rfl (fun K hK=>?_) AllReadyIn.nil)
     go_simp
     refine hK _ _ ?_
     clear hK K
     refine wpAnyIn_done (by kernel_rfl) ?_ _
     exact⟨rfl,rfl,rfl,rfl⟩
  case post=>
   rintro e a' w' hp
   cases e with
   |normal=>
    obtain⟨h1,h2,h3,rfl⟩:=hp
    refine hKK _ _ (wpIn_ret ?_)
    obtain⟨tm,df⟩:=a'
    dsimp only at h1 h2 h3
    subst h1
    have HKd:=HK.out
    clear r0 r1 r2 r3 r4 r5 f0 f1 f2 f3 f4 f5 c3 e3 c6 u6 HK
    generalize hV:(((((((W.drew.setCell ⟨b2,0,none⟩ (.int .i64 0)).setCell ⟨b2,1,none⟩ (.int .u8 0)).setCell ⟨b2,2,none⟩ (.string ⟨#[]⟩)).setCell ⟨b2,3,none⟩ (.slice none 0 0)).setCell ⟨b2,4,none⟩ (.string ⟨#[]⟩)).setCell ⟨b2,5,none⟩ (.bool false)).setCell ⟨b3,0,none⟩ (.int .i64 code))=V at HZ ⊢
    have hKc:V.heap[D]? =some (.deferred (some [])):=(HZ.out.2.2.2.2 D hD (lt_of_heap HKd)).trans HKd
    clear HKd hV
    have hr:∀r,some D=some r→∃o:Obj,V.heap[r]? =some o∧o.isCells=false:=fun r e=>by
     obtain rfl:=zx e
     exact⟨_,hKc,rfl⟩
    have k2:=lM HZ.out.1 (grownBy_putObj' V D (.deferred none)) hr
    have k3:=lM HZ.out.2.1 (grownBy_putObj' V D (.deferred none)) hr
    have hbl:=HZ.out.2.2.1.grown (grownBy_putObj' V D (.deferred none)) HZ.out.2.2.1.size (fun k e=>by
     obtain rfl:=zx e
     omega)
    have c0:=k2.cell 0 rfl
    have c1:=k2.cell 1 rfl
    have c2:=k2.cell 2 rfl
    have c3:=k2.cell 3 rfl
    have c4:=k2.cell 4 rfl
    have c5:=k2.cell 5 rfl
    have c6:=k3.cell 0 rfl
    refine⟨by simp,.inl ⟨_,_,rfl,run_takeDeferred hKc,?_⟩⟩
    refine⟨.tuple #[.agg #[.int .i64 0,.int .u8 0,.string ⟨#[]⟩,.slice none 0 0,.string ⟨#[]⟩,.bool false],.int .i64 code],?_,code,_,rfl,fun _=>rfl,HF.out,fun e=>absurd e HC0.out,hbl⟩
    generalize V.putObj D (.deferred none)=V' at c0 c1 c2 c3 c4 c5 c6 ⊢
    have h2':tm[2]?.getD undef= .pointer (some ⟨b2,0,none⟩):=by simpa using h2
    have h3':tm[3]?.getD undef= .pointer (some ⟨b3,0,none⟩):=by simpa using h3
    simp[results,Tryz.results15,go_sem,h2',h3',c0,c1,c2,c3,c4,c5,c6]
   |_=>exact hp.elim
 case stop=>
  rintro D cc pre W hD _ ⟨rfl,x,hx⟩ hK
  gi_wp2
  have hr:∀r,some D=some r→∃o:Obj,W.heap[r]? =some o∧o.isCells=false:=fun r e=>by
   obtain rfl:=zx e
   exact⟨_,hK,rfl⟩
  have hX:=hx.own (grownBy_putObj' W D (.deferred none)) (fun r e=>⟨by
   obtain rfl:=zx e
   omega,hr r e⟩)
  refine⟨by simp,.inl ⟨_,_,rfl,run_takeDeferred hK,?_⟩⟩
  have KA:=zz hX
  clear hx hr hK hX
  generalize W.putObj D (.deferred none)=V at KA ⊢
  obtain⟨⟨p',o'⟩,d,A9,c9⟩:=x
  have c0:=KA.out.k2.cell 0 rfl
  have c1:=KA.out.k2.cell 1 rfl
  have c2:=KA.out.k2.cell 2 rfl
  have c3:=KA.out.k2.cell 3 rfl
  have c4:=KA.out.k2.cell 4 rfl
  have c5:=KA.out.k2.cell 5 rfl
  have c6:=KA.out.k3.cell 0 rfl
  refine⟨.tuple #[iX ((p',o'),d,A9,c9),.int .i64 0],?_,0,_,rfl,fun e=>absurd rfl e,.inl ⟨rfl,p',o',d,KA.out.p,KA.out.e.o,KA.out.e.d,KA.out.f⟩,fun _=>⟨_,rfl,KA.out.e,KA.out.p,KA.out.f⟩,KA.out.bl⟩
  unfold iX fK
  simp[results,Tryz.results15,go_sem,c0,c1,c2,c3,c4,c5,c6]
end Go.Proofs.YtceaodnohnekkaaGreatDoor
namespace Go.Proofs.YtceaodnohnekkaaGreatDoor
open Go.RowKit Ex
set_option maxHeartbeats 4000000 in
theorem acm (s:ByteArray)(A:Option Addr)(l:List ay)(n c:Nat)(w:World)(p:Nat→Prop)(hG:gJ w)(hn:l.length=n)(hm:(n:Int)≤1000)(h64:∀o∈l,mQ o)(h:Rd w p A (bE l))(hbad:eF s l≠0):
 Calls Tryz.prog 15 #[.agg #[.string s,.slice A n c]] w fun e w'=>∃E,e= .returned (.tuple #[.agg #[.int .i64 0,.int .u8 0,.string ⟨#[]⟩,.slice none 0 0,.string ⟨#[]⟩,.bool false],.int .i64 (eF s l:Nat)])∧E=0∧Below w.heap.size w w':=by
 have C1:Hid (∀W,Below w.heap.size w W→Calls Tryz.prog 33 #[.agg #[.string s,.slice A n c]] W fun e w'=>e= .returned (.int .i64 (eF s l:Nat))∧Below W.heap.size W w'):=fun W hb=>BQ s A l n c W p (hG.after hb) hn hm h64 (h.after hb)
 have e1:((eF s l:Nat):Int) != 0:=by
  rw[bne_iff_ne];omega
 clear h hn h64 hG hbad
 generalize eF s l=v at C1 e1 ⊢
 have e1:=zz e1
 have e2:=e1.out
 have HA:Hid (∀o1 o2 o3:Obj,Below w.heap.size w (((w.alloc o1).alloc o2).alloc o3)):=fun o1 o2 o3=>(((zo _ _).alloc (zu _) _).alloc (by simp) _).alloc (by simp;omega) _
 have K1:Hid (∀o2 o3:Obj,Bk (((w.alloc (.cells #[.string s,.slice A n c] 24)).alloc o2).alloc o3) w.heap.size 24 [.string s,.slice A n c]):=fun o2 o3=>((Bk.new w _ _).alloc _).alloc _
 have K2:Hid (∀o1 o3:Obj,Bk (((w.alloc o1).alloc (.cells #[.int .i64 0,.int .u8 0,.string ⟨#[]⟩,.slice none 0 0,.string ⟨#[]⟩,.bool false] 49)).alloc o3) (w.heap.size+1) 49 [.int .i64 0,.int .u8 0,.string ⟨#[]⟩,.slice none 0 0,.string ⟨#[]⟩,.bool false]):=fun o1 o3=>by
  have:=(Bk.new (w.alloc o1) 49 [.int .i64 0,.int .u8 0,.string ⟨#[]⟩,.slice none 0 0,.string ⟨#[]⟩,.bool false]).alloc o3
  rwa [World.size_alloc] at this
 have K3:Hid (∀o1 o2:Obj,Bk (((w.alloc o1).alloc o2).alloc (.cells #[.int .i64 0] 27)) (w.heap.size+1+1) 27 [.int .i64 0]):=fun o1 o2=>by
  have:=Bk.new ((w.alloc o1).alloc o2) 27 [.int .i64 0]
  rwa [World.size_alloc,World.size_alloc] at this
 go_enter Tryz.func15,Tryz.ntmps15
 go_upto_region 1 with fail
 have K1:=zz (K1.out (.cells #[.int .i64 0,.int .u8 0,.string ⟨#[]⟩,.slice none 0 0,.string ⟨#[]⟩,.bool false] 49) (.cells #[.int .i64 0] 27))
 have K2:=zz (K2.out (.cells #[.string s,.slice A n c] 24) (.cells #[.int .i64 0] 27))
 have K3:=zz (K3.out (.cells #[.string s,.slice A n c] 24) (.cells #[.int .i64 0,.int .u8 0,.string ⟨#[]⟩,.slice none 0 0,.string ⟨#[]⟩,.bool false] 49))
 have HA:=zz (HA.out (.cells #[.string s,.slice A n c] 24) (.cells #[.int .i64 0,.int .u8 0,.string ⟨#[]⟩,.slice none 0 0,.string ⟨#[]⟩,.bool false] 49) (.cells #[.int .i64 0] 27))
 generalize (((w.alloc (.cells #[.string s,.slice A n c] 24)).alloc (.cells #[.int .i64 0,.int .u8 0,.string ⟨#[]⟩,.slice none 0 0,.string ⟨#[]⟩,.bool false] 49)).alloc (.cells #[.int .i64 0] 27))=W0 at HA K1 K2 K3 ⊢
 have x0:=K1.out.cell 0 rfl
 have x1:=K1.out.cell 1 rfl
 go_upto_region 3 with (go_at_call 33;refine (C1.out _ HA.out).mono ?_;rintro e w1 ⟨rfl,hb⟩;have HB:=zz (HA.out.trans (hb.mono HA.out.size));have L2:=zz (K2.out.after hb);have L3:=zz (K3.out.after hb);clear hb)
 clear x0 x1 K1 K2 K3 HA C1
 obtain⟨b2,hb2⟩:∃b,w.heap.size+1=b:=⟨_,rfl⟩
 obtain⟨b3,hb3⟩:∃b,b2+1=b:=⟨_,rfl⟩
 rw[hb2] at L2 L3
 rw[hb3] at L3
 rw[hb2,hb3]
 have hne:b3≠b2:=by omega
 have y0:=L2.out.cell 0 rfl
 have y1:=L2.out.cell 1 rfl
 have y2:=L2.out.cell 2 rfl
 have y3:=L2.out.cell 3 rfl
 have y4:=L2.out.cell 4 rfl
 have y5:=L2.out.cell 5 rfl
 have f0:=L2.out.frozen 0
 have f1:=L2.out.frozen 1
 have f2:=L2.out.frozen 2
 have f3:=L2.out.frozen 3
 have f4:=L2.out.frozen 4
 have f5:=L2.out.frozen 5
 have z3:=(p9 L3.out hne).cell 0 rfl
 have g3:=(p9 L3.out hne).frozen 0
 have HX:Hid (Bk ((fdZ w1 b2).setCell ⟨b3,0,none⟩ (.int .i64 (v:Int))) b2 49 [.int .i64 0,.int .u8 0,.string ⟨#[]⟩,.slice none 0 0,.string ⟨#[]⟩,.bool false]∧Bk ((fdZ w1 b2).setCell ⟨b3,0,none⟩ (.int .i64 (v:Int))) b3 27 [.int .i64 (v:Int)]∧Below w.heap.size w ((fdZ w1 b2).setCell ⟨b3,0,none⟩ (.int .i64 (v:Int)))):=by
  have k2:=(((((L2.out.set 0 (.int .i64 0)).set 1 (.int .u8 0)).set 2 (.string ⟨#[]⟩)).set 3 (.slice none 0 0)).set 4 (.string ⟨#[]⟩)).set 5 (.bool false)
  have hw2:w.heap.size≤b2:=by omega
  have hw3:w.heap.size≤b3:=by omega
  exact⟨k2.other (p:=⟨b3,0,none⟩) (Ne.symm hne) _,(p9 L3.out hne).set 0 _,((((((HB.out.setCell hw2 _).setCell hw2 _).setCell hw2 _).setCell hw2 _).setCell hw2 _).setCell hw2 _).setCell hw3 _⟩
 unfold fdZ at z3 g3 HX
 clear hne hb2 hb3 L2 L3
 go_wp2
 have c0:=HX.out.1.cell 0 rfl
 have c1:=HX.out.1.cell 1 rfl
 have c2:=HX.out.1.cell 2 rfl
 have c3:=HX.out.1.cell 3 rfl
 have c4:=HX.out.1.cell 4 rfl
 have c5:=HX.out.1.cell 5 rfl
 have c6:=HX.out.2.1.cell 0 rfl
 refine bodyPost_ret (v:=.tuple #[.agg #[.int .i64 0,.int .u8 0,.string ⟨#[]⟩,.slice none 0 0,.string ⟨#[]⟩,.bool false],.int .i64 (v:Int)]) (by simp[results,Tryz.results15,go_sem,c0,c1,c2,c3,c4,c5,c6]) rfl ⟨0,rfl,rfl,HX.out.2.2⟩
theorem acn (s:ByteArray)(A:Option Addr)(l:List ay)(n c:Nat)(w:World)(p:Nat→Prop)(hG:gJ w)(hn:l.length=n)(hm:(n:Int)≤1000)(h64:∀o∈l,mQ o)(h:Rd w p A (bE l)):
 Calls Tryz.prog 15 #[.agg #[.string s,.slice A n c]] w fun e w'=>∃(code:Int) (p0 o0:Int) (UK Vu:ByteArray) (WR:Bool) (A0:Option Addr) (n0 c0:Nat),e= .returned (.tuple #[.agg #[.int .i64 p0,.int .u8 o0,.string UK,.slice A0 n0 c0,.string Vu,.bool WR],.int .i64 code])∧
  (eF s l≠0∧code=(eF s l:Nat)∨eF s l=0∧∃nm,nm∈dY∧s=aa nm∧nV (aa nm) (aK nm l) code∧(code=0→∃x,.agg #[.int .i64 p0,.int .u8 o0,.string UK,.slice A0 n0 c0,.string Vu,.bool WR]=iX x∧bW w.heap.size w' x∧x.1.1≤6∧fZ (aa nm) (aK nm l) x.2.1=true))∧Below w.heap.size w w':=by
 by_cases hc:eF s l=0
 ·obtain⟨h1,h2,h3⟩:=nK hc
  obtain⟨nm,hnm,hs⟩:∃nm,nm∈dY∧aa nm=s:=by
   unfold dW at h1
   obtain⟨nm,hnm,h⟩:=List.any_eq_true.1 h1
   exact⟨nm,hnm,of_decide_eq_true h⟩
  subst hs
  refine (Vo nm hnm A l n c w p hG hn h2 h64 h hc).mono ?_
  rintro e w' ⟨code,E,rfl,hz,hf,hx,hb⟩
  by_cases h0:code=0
  ·obtain⟨x,rfl,hx2⟩:=hx h0
   obtain⟨⟨p',o'⟩,d,A9,c9⟩:=x
   exact⟨code,p',o',aa d.2.1,aa d.2.2.1,d.2.2.2.1,A9,d.2.2.2.2.length / 3,c9,rfl,.inr ⟨hc,nm,hnm,rfl,hf,fun _=>⟨_,rfl,hx2⟩⟩,hb⟩
  ·obtain rfl:=hz h0
   exact⟨code,0,0,⟨#[]⟩,⟨#[]⟩,false,none,0,0,rfl,.inr ⟨hc,nm,hnm,rfl,hf,fun e=>absurd e h0⟩,hb⟩
 ·refine (acm s A l n c w p hG hn hm h64 h hc).mono ?_
  rintro e w' ⟨_,rfl,_,hb⟩
  exact⟨_,0,0,⟨#[]⟩,⟨#[]⟩,false,none,0,0,rfl,.inl ⟨hc,rfl⟩,hb⟩
abbrev JZ (d:aJ)(lc:List ay):Int:=takeN (mP d) lc
abbrev I5 (d:aJ)(lc:List ay):Int:=takeN (oW d) (eT (mP d) lc)
theorem aci {p o:Nat}{d:aJ}(hd:gL p o=some d){s:ByteArray}{lc:List ay}(h:fZ s lc d=true):Vm d lc= .tuple #[.int .i64 (JZ d lc),.int .i64 (I5 d lc),.bool true]:=by
 have hm:=fV h
 have hs:=fP hm
 have h2:=DW _ _ _ hm
 rw[h,← xU (jo hd hs.1) hs.2.2.2] at h2
 unfold Vm
 rw[← h2]
 rfl
set_option maxHeartbeats 4000000 in
theorem SF {w0 w:World}(hG:gJ w0)(hb0:Below w0.heap.size w0 w){x:dN}(hx:bW w0.heap.size w x){nm:List Nat}(hnm:nm∈dY)(A:Option Addr)(l:List ay)(n c:Nat)(p:Nat→Prop)(hn:l.length=n)(hm:l.length≤3)(h64:∀o∈l,mQ o)(h:Rd w p A (bE l))(hfit:fZ (aa nm) (aK nm l) x.2.1=true):
 Calls Tryz.prog 16 #[iX x,.agg #[.string (aa nm),.slice A n c]] w fun e w'=>e= .returned (.tuple #[.int .i64 (JZ x.2.1 (aK nm l)),.int .i64 (I5 x.2.1 (aK nm l))])∧Below w.heap.size w w':=by
 have hbyte:=kK hnm
 have hl5:(aK nm l).length≤3:=l5 nm l hm
 have hfv:=aci hx.d hfit
 have hsh:bK (aa x.2.1.2.1) (aa nm) (opsL x.2.1.2.2.2.2) (aK nm l)=true:=decide_eq_true (fP (fV hfit)).2.2
 have N9:∀W,Below w.heap.size w W→_:=fun W (hb:Below w.heap.size w W)=>BR nm hbyte A l n c W p hn.symm hm (fun o ho=>(h64 o ho).2.2) (h.after hb) (EU hbyte (hG.after (hb0.trans (hb.mono hb0.size))))
 obtain⟨lc,hlc⟩:∃lc,aK nm l=lc:=⟨_,rfl⟩
 rw[hlc] at hl5 hfv hsh N9 ⊢
 clear hlc hfit
 obtain⟨n5,mK⟩:∃n5,lc.length=n5:=⟨_,rfl⟩
 rw[mK] at N9
 have CO:Hid (∀W,Below w.heap.size w W→Calls Tryz.prog 34 #[.agg #[.string (aa nm),.slice A n c]] W fun e w'=>∃A' c',e= .returned (.agg #[.string (aa nm),.slice A' n5 c'])∧Ow w' W.heap.size A' lc∧Below W.heap.size W w'):=N9
 have CF:Hid (∀W A5 c5,Below w.heap.size w W→Rd W (fun _=>True) A5 (bE lc)→Calls Tryz.prog 37 #[iX x,.agg #[.string (aa nm),.slice A5 n5 c5]] W fun e w'=>e= .returned (.tuple #[.int .i64 (JZ x.2.1 lc),.int .i64 (I5 x.2.1 lc),.bool true])∧Below W.heap.size W w'):=fun W A5 c5 hb r=>by
  have:=R4 hG (hb0.trans (hb.mono hb0.size)) (hx.after hb) hnm A5 n5 c5 lc mK.symm hl5 r hsh
  rw[hfv] at this
  exact this
 clear N9 hfv hsh hx hG hb0 h h64 hm hn hl5 mK hbyte
 obtain⟨⟨p',o'⟩,d,A9,c9⟩:=x
 unfold iX at CF ⊢
 dsimp only[fK] at CF ⊢
 generalize JZ d lc=dv at CF ⊢
 generalize I5 d lc=nv at CF ⊢
 have HA:Hid (Below w.heap.size w ((w.alloc (.cells #[.int .i64 (p':Int),.int .u8 (o':Int),.string (aa d.2.1),.slice A9 (d.2.2.2.2.length / 3) c9,.string (aa d.2.2.1),.bool d.2.2.2.1] 49)).alloc (.cells #[.string (aa nm),.slice A n c] 24))):=((zo _ _).alloc (zu _) _).alloc (by simp) _
 have K1:Hid (Bk ((w.alloc (.cells #[.int .i64 (p':Int),.int .u8 (o':Int),.string (aa d.2.1),.slice A9 (d.2.2.2.2.length / 3) c9,.string (aa d.2.2.1),.bool d.2.2.2.1] 49)).alloc (.cells #[.string (aa nm),.slice A n c] 24)) w.heap.size 49 [.int .i64 (p':Int),.int .u8 (o':Int),.string (aa d.2.1),.slice A9 (d.2.2.2.2.length / 3) c9,.string (aa d.2.2.1),.bool d.2.2.2.1]):=(Bk.new w _ _).alloc _
 have K2:Hid (Bk ((w.alloc (.cells #[.int .i64 (p':Int),.int .u8 (o':Int),.string (aa d.2.1),.slice A9 (d.2.2.2.2.length / 3) c9,.string (aa d.2.2.1),.bool d.2.2.2.1] 49)).alloc (.cells #[.string (aa nm),.slice A n c] 24)) (w.heap.size+1) 24 [.string (aa nm),.slice A n c]):=by
  have:=Bk.new (w.alloc (.cells #[.int .i64 (p':Int),.int .u8 (o':Int),.string (aa d.2.1),.slice A9 (d.2.2.2.2.length / 3) c9,.string (aa d.2.2.1),.bool d.2.2.2.1] 49)) 24 [.string (aa nm),.slice A n c]
  rwa [World.size_alloc] at this
 go_enter Tryz.func16,Tryz.ntmps16
 go_upto_region 1 with fail
 obtain⟨b2,hb2⟩:∃b,w.heap.size=b:=⟨_,rfl⟩
 obtain⟨b3,hb3⟩:∃b,b2+1=b:=⟨_,rfl⟩
 rw[hb2] at K1 K2 ⊢
 rw[hb3] at K2 ⊢
 generalize (w.alloc (.cells #[.int .i64 (p':Int),.int .u8 (o':Int),.string (aa d.2.1),.slice A9 (d.2.2.2.2.length / 3) c9,.string (aa d.2.2.1),.bool d.2.2.2.1] 49)).alloc (.cells #[.string (aa nm),.slice A n c] 24)=W0 at HA K1 K2 ⊢
 have Hd:=zz (aM HA.out)
 have Kd1:=zz K1.out.drew
 have Kd2:=zz K2.out.drew
 have x0:=Kd1.out.cell 0 rfl
 have x1:=Kd1.out.cell 1 rfl
 have x2:=Kd1.out.cell 2 rfl
 have x3:=Kd1.out.cell 3 rfl
 have x4:=Kd1.out.cell 4 rfl
 have x5:=Kd1.out.cell 5 rfl
 have z0:=Kd2.out.cell 0 rfl
 have z1:=Kd2.out.cell 1 rfl
 first | (go_region_held3 (fun w'=>w'.cell? ⟨b2,0,none⟩=some (.int .i64 (p':Int))∧w'.cell? ⟨b2,1,none⟩=some (.int .u8 (o':Int))∧w'.cell? ⟨b2,2,none⟩=some (.string (aa d.2.1))∧w'.cell? ⟨b2,3,none⟩=some (.slice A9 (d.2.2.2.2.length / 3) c9)∧w'.cell? ⟨b2,4,none⟩=some (.string (aa d.2.2.1))∧w'.cell? ⟨b2,5,none⟩=some (.bool d.2.2.2.1)∧w'.cell? ⟨b3,0,none⟩=some (.string (aa nm))∧w'.cell? ⟨b3,1,none⟩=some (.slice A n c)) (first | assumption | go_keep) (first
  |(go_at_call 34;refine (CO.out _ Hd.out).mono ?_;rintro e w1 ⟨A5,c5,rfl,ho,hb⟩;have H1:=zz (Hd.out.trans (hb.mono Hd.out.size));have HR:=zz ho;have L1:=Kd1.out.after hb;have L2:=Kd2.out.after hb;have y0:=L1.cell 0 rfl;have y1:=L1.cell 1 rfl;have y2:=L1.cell 2 rfl;have y3:=L1.cell 3 rfl;have y4:=L1.cell 4 rfl;have y5:=L1.cell 5 rfl;have v0:=L2.cell 0 rfl;have v1:=L2.cell 1 rfl;have M1:=zz L1;have M2:=zz L2;clear hb ho L1 L2)
  |(go_at_call 37;refine (CF.out _ _ _ H1.out (HR.out.rd.gz fun _ _=>trivial)).mono ?_;rintro e w2 ⟨rfl,hb⟩;have H2:=zz (H1.out.trans (hb.mono H1.out.size));have L1:=M1.out.after hb;have L2:=M2.out.after hb;have u0:=L1.cell 0 rfl;have u1:=L1.cell 1 rfl;have u2:=L1.cell 2 rfl;have u3:=L1.cell 3 rfl;have u4:=L1.cell 4 rfl;have u5:=L1.cell 5 rfl;have t0:=L2.cell 0 rfl;have t1:=L2.cell 1 rfl;clear hb L1 L2))) | fail
 all_goals
  go_wp2
  go_ret2
  exact⟨rfl,H2.out⟩
def aeF (s:ByteArray)(l:List ay)(w':World)(A':Option Addr)(n' c':Nat)(code:Int):Prop:=
 (eF s l≠0∧code=(eF s l:Nat)∧n'=0)∨
 (eF s l=0∧∃nm,nm∈dY∧s=aa nm∧nV (aa nm) (aK nm l) code∧(code≠0→n'=0)∧(code=0→∃(p o:Nat) (d:aJ),p≤6∧o < 256∧gL p o=some d∧fZ (aa nm) (aK nm l) d=true∧
   n'=(jg p (.int .u8 (o:Int)) d.2.2.1 (JZ d (aK nm l)) (I5 d (aK nm l))).length∧n'≤c'∧Rd w' (fun _=>True) A' (jg p (.int .u8 (o:Int)) d.2.2.1 (JZ d (aK nm l)) (I5 d (aK nm l)))))
set_option maxHeartbeats 4000000 in
theorem NC (s:ByteArray)(A:Option Addr)(l:List ay)(n c:Nat)(w:World)(p:Nat→Prop)(hG:gJ w)(hn:l.length=n)(hm:(n:Int)≤1000)(h64:∀o∈l,mQ o)(h:Rd w p A (bE l)):
 Calls Tryz.prog 5 #[.agg #[.string s,.slice A n c]] w fun e w'=>∃A' n' c' code,e= .returned (.tuple #[.slice A' n' c',.int .i64 code])∧aeF s l w' A' n' c' code∧Below w.heap.size w w':=by
 have CF:=zz (fun W (hb:Below w.heap.size w W)=>acn s A l n c W p (hG.after hb) hn hm h64 (h.after hb))
 have CV:=zz (fun W (hb:Below w.heap.size w W) (w0:World) (hb1:Below w.heap.size w w0) (hb0:Below w0.heap.size w0 W) (x:dN) (hx:bW w0.heap.size W x) (nm:List Nat) (hnm:nm∈dY) (hs:s=aa nm) (hl3:l.length≤3) (hfit:fZ (aa nm) (aK nm l) x.2.1=true)=>SF (hG.after hb1) hb0 hx hnm A l n c p hn hl3 h64 (h.after hb) hfit)
 have CB:=zz (fun W (w0:World) (hb1:Below w.heap.size w w0) (hb0:Below w0.heap.size w0 W) (x:dN) (hx:bW w0.heap.size W x) (d z:Int)=>bytes_at (hG.after hb1) hb0 hx.d hx.k hx.r d z)
 have HA:Hid (Below w.heap.size w (w.alloc (.cells #[.string s,.slice A n c] 24))):=(zo _ _).alloc (zu _) _
 have HK:Hid (Bk (w.alloc (.cells #[.string s,.slice A n c] 24)) w.heap.size 24 [.string s,.slice A n c]):=Bk.new w _ _
 clear h h64 hn hm hG
 go_enter Tryz.func5,Tryz.ntmps5
 go_upto_region 1 with fail
 generalize w.alloc (.cells #[.string s,.slice A n c] 24)=W0 at HA HK ⊢
 have x0:=HK.out.cell 0 rfl
 have x1:=HK.out.cell 1 rfl
 go_upto_region 2 with (go_at_call 15;refine (CF.out _ HA.out).mono ?_;rintro e w1 ⟨code,p0,o0,UK,Vu,WR,A0,n0,c0,rfl,hf,hb⟩;have HF:=zz hf;have HB1:=zz hb;have fE:=zz ((HK.out.after hb).alloc (.cells #[.int .i64 p0,.int .u8 o0,.string UK,.slice A0 n0 c0,.string Vu,.bool WR] 49));have KE:=zz (Bk.new w1 49 [.int .i64 p0,.int .u8 o0,.string UK,.slice A0 n0 c0,.string Vu,.bool WR]);have HD1:Hid (Below W0.heap.size W0 (w1.alloc (.cells #[.int .i64 p0,.int .u8 o0,.string UK,.slice A0 n0 c0,.string Vu,.bool WR] 49))):=hb.alloc hb.size _;clear hb hf)
 clear x0 x1
 by_cases h0:code=0
 ·subst h0
  obtain⟨hc,nm,hnm,hs,hfa,hx0⟩:=HF.out.resolve_left (fun h=>h.1 (by have:=h.2;omega))
  obtain⟨x,hE,hxe,hxp,hxf⟩:=hx0 rfl
  have hl3:=(nK hc).2.1
  subst hs
  obtain⟨⟨p',o'⟩,d,A9,c9⟩:=x
  unfold iX at hE
  dsimp only[fK] at hE
  obtain⟨rfl,rfl,rfl,⟨rfl,rfl,rfl⟩,rfl,rfl⟩:p0=(p':Int)∧o0=(o':Int)∧UK=aa d.2.1∧(A0=A9∧n0=d.2.2.2.2.length / 3∧c0=c9)∧Vu=aa d.2.2.1∧WR=d.2.2.2.1:=by simpa using hE
  have hx2:=hxe.after ((zo w1.heap.size w1).alloc (zu _) (.cells #[.int .i64 (p':Int),.int .u8 (o':Int),.string (aa d.2.1),.slice A0 (d.2.2.2.2.length / 3) c0,.string (aa d.2.2.1),.bool d.2.2.2.1] 49))
  have HW2:=zz (HA.out.trans (HD1.out.mono HA.out.size))
  have CVx:=CV.out _ HW2.out W0 HA.out HD1.out _ hx2 nm hnm rfl hl3 hxf
  unfold iX at CVx
  dsimp only[fK] at CVx
  have CVx:=zz CVx
  have HXE:=zz hx2
  have HR:=zz (zy hc (zy hnm (zy hfa (zy hxp (zy hxf hxe.d)))))
  have HO:=zz hxe.o
  obtain⟨dv,hdv⟩:∃dv,JZ d (aK nm l)=dv:=⟨_,rfl⟩
  obtain⟨nv,hnv⟩:∃nv,I5 d (aK nm l)=nv:=⟨_,rfl⟩
  rw[hdv,hnv] at CVx
  have HDN:=zz (zy hdv hnv)
  clear HF hx0 hE hxe hxp hxf hc hnm hfa hl3 hx2 CF CV hdv hnv HB1
  obtain⟨b4,hb4⟩:∃b,w1.heap.size=b:=⟨_,rfl⟩
  rw[hb4] at KE ⊢
  generalize (w1.alloc (.cells #[.int .i64 (p':Int),.int .u8 (o':Int),.string (aa d.2.1),.slice A0 (d.2.2.2.2.length / 3) c0,.string (aa d.2.2.1),.bool d.2.2.2.1] 49))=W2 at fE KE HD1 HW2 CVx HXE ⊢
  clear hb4
  have y0:=KE.out.cell 0 rfl
  have y1:=KE.out.cell 1 rfl
  have y2:=KE.out.cell 2 rfl
  have y3:=KE.out.cell 3 rfl
  have y4:=KE.out.cell 4 rfl
  have y5:=KE.out.cell 5 rfl
  have z0:=fE.out.cell 0 rfl
  have z1:=fE.out.cell 1 rfl
  go_upto_region 5 with (go_at_call 16;refine CVx.out.mono ?_;rintro e w3 ⟨rfl,hb⟩;have HE3:=zz (KE.out.after hb);have HX3:=zz (HXE.out.after hb);have HD3:=zz (HD1.out.trans (hb.mono HD1.out.size));clear hb)
  clear y0 y1 y2 y3 y4 y5 z0 z1
  have y0:=HE3.out.cell 0 rfl
  have y1:=HE3.out.cell 1 rfl
  have y2:=HE3.out.cell 2 rfl
  have y3:=HE3.out.cell 3 rfl
  have y4:=HE3.out.cell 4 rfl
  have y5:=HE3.out.cell 5 rfl
  have CBx:=CB.out w3 W0 HA.out HD3.out _ HX3.out dv nv
  unfold Xe at CBx
  dsimp only at CBx
  have HBY:=zz (show jg p' (.int .u8 (o':Int)) d.2.2.1 dv nv=jg p' (.int .u8 (o':Int)) d.2.2.1 (JZ d (aK nm l)) (I5 d (aK nm l)) from by rw[HDN.out.1,HDN.out.2])
  generalize jg p' (.int .u8 (o':Int)) d.2.2.1 dv nv=bb at CBx HBY
  obtain⟨nb,hnb⟩:∃nb,bb.length=nb:=⟨_,rfl⟩
  rw[hnb] at CBx
  have HNB:=zz hnb
  have CBx:=zz CBx
  clear CB hnb
  go_wp2_with (go_at_call 17;refine CBx.out.mono ?_;rintro e w4 ⟨A',c',rfl,hc',hr',hb⟩;have HZ:=zz (zy hc' hr');have HD4:=zz (HA.out.trans ((HD3.out.trans (hb.mono HD3.out.size)).mono HA.out.size));clear hb hc' hr')
  go_ret2
  refine⟨A',nb,c',0,rfl,.inr ⟨HR.out.1,nm,HR.out.2.1,rfl,HR.out.2.2.1,fun e=>absurd rfl e,fun _=>⟨p',o',d,HR.out.2.2.2.1,HO.out,HR.out.2.2.2.2.2,HR.out.2.2.2.2.1,?_,HZ.out.1,?_⟩⟩,HD4.out⟩
  ·rw[← HBY.out,HNB.out]
  ·rw[← HBY.out]
   exact HZ.out.2
 ·have e1:(code != 0)=true:=bne_iff_ne.2 h0
  have HX:Hid (∀w',aeF s l w' none 0 0 code):=fun w'=>by
   rcases HF.out with⟨h1,h2⟩ | ⟨h1,nm,h2,h3,h4,_⟩
   ·exact .inl ⟨h1,h2,rfl⟩
   ·exact .inr ⟨h1,nm,h2,h3,h4,fun _=>rfl,fun e=>absurd e h0⟩
  clear HF CV CB CF
  go_wp2
  go_ret2
  exact⟨none,0,0,code,rfl,HX.out _,HA.out.trans (HD1.out.mono HA.out.size)⟩
theorem Du:allT (fun _ _ d=>match d.1 with | 1=>rH (fun x=>Nat.ble 65 x && Nat.ble x 90) d.2.1 | _=>true) 0 Ga=true:=by kernel_rfl
theorem abd {p o:Nat}{d:aJ}(hd:gL p o=some d)(hk:d.1=1):∀x∈d.2.1,65≤x∧x≤90:=fun x hx=>by
 have h:=gp Du hd
 rw[hk] at h
 have h2:=dZ (f:=fun x=>Nat.ble 65 x && Nat.ble x 90) h hx
 simp only[Bool.and_eq_true] at h2
 exact⟨Nat.le_of_ble_eq_true h2.1,Nat.le_of_ble_eq_true h2.2⟩
theorem ZN {w:World}{B b:Nat}{A:Option Addr}{l:List ay}{u:Value}{T:TypeId}(h:Ow w B A l)(hb:w.heap[b]? =some (.cells #[u] T (0,0))):l≠[]→∀a,A=some a→a.block≠b:=fun hl a ha e=>by
 obtain⟨q,off,cur,T',hA,_,hh,hc⟩:=h hl
 rw[hA] at ha
 obtain rfl:=zx ha
 obtain rfl:q=b:=e
 rw[hh] at hb
 have e2:cur=#[u]:=by
  have:=zx hb
  injection this
 subst e2
 have h3:=congrArg List.length hc
 rw[List.length_take,List.length_drop,gZ] at h3
 have:0 < l.length:=List.length_pos_iff.2 hl
 simp at h3
 omega
structure Xi (w W:World)(B r:Nat)(s:ByteArray)(A:Option Addr)(n c:Nat)(l:List ay)(e:List Value):Prop where
 f:Cn w B r s true A n c l e W
 b1:Bk W (w.heap.size+1) 24 [.string ⟨#[]⟩,.slice none 0 0]
 hB:w.heap.size+2≤B
section
variable {w W W':World} {B r n c:Nat} {s:ByteArray} {A:Option Addr} {l l':List ay} {e:List Value}
theorem Xi.call (h:Xi w W B r s A n c l e)(hb:Below W.heap.size W W'):Xi w W' B r s A n c l e:=⟨sS h.f hb,h.b1.after hb,h.hB⟩
theorem Xi.put (h:Xi w W B r s A n c l e)(hr:Rest B r s true A n c l' W')(hb:Below B W W'):Xi w W' B r s A n c l' e:=⟨sQ h.f (by have:=h.hB;omega) hr hb,h.b1.below hb (by have:=h.hB;omega),h.hB⟩
theorem Xi.amu (h:Xi w W B r s A n c l e):l≠[]→∀a,A=some a→a.block < W.heap.size:=fun hl a ha=>by
 obtain⟨q,off,cur,T',hA,_,hh,hc⟩:=h.f.1.2.1 hl
 rw[hA] at ha
 obtain rfl:=zx ha
 exact gU hh
end
theorem ui {W W':World}{v:Option Vr}{idx:Int}{f:Value}{there:Bool}(h:iY W v idx f there)(hb:∀b,(∃u,W.cell? ⟨b,0,none⟩=some u)→(∀y b1 b2,v=some y→f= .func (.func 201) #[] #[.pointer (some ⟨b1,0,none⟩),.pointer (some ⟨b2,0,none⟩)]→b=b1∨b=b2→W'.heap[b]? =W.heap[b]?)):iY W' v idx f there:=by
 cases v with
 |none=>exact h
 |some y=>
  obtain⟨h1,h2,b1,b2,hf,c1,c2⟩:=h
  refine⟨h1,h2,b1,b2,hf,?_,?_⟩
  ·rw[World.cell?_of_block (w:=W) (hb b1 ⟨_,c1⟩ y b1 b2 rfl hf (.inl rfl))];exact c1
  ·rw[World.cell?_of_block (w:=W) (hb b2 ⟨_,c2⟩ y b1 b2 rfl hf (.inr rfl))];exact c2
theorem EX {W W':World}{v:Option Vr}{idx:Int}{f:Value}{there:Bool}(h:iY W v idx f there)(hb:Below W.heap.size W W'):iY W' v idx f there:=
 ui h fun b ⟨_,hu⟩ _ _ _ _ _ _=>hb.block b (lt_of_cell hu)
theorem Ag {W W':World}{v:Option Vr}{f:Value}(h:EC W v f)(hb:∀(b:Nat) (u:Value) (T:TypeId),W.heap[b]? =some (.cells #[u] T (0,0))→W'.heap[b]? =W.heap[b]?):EC W' v f:=fun y hy=>by
 obtain⟨b1,b2,T1,T2,hf,h1,h2⟩:=h y hy
 exact⟨b1,b2,T1,T2,hf,(hb b1 _ _ h1).trans h1,(hb b2 _ _ h2).trans h2⟩
theorem KP {W W':World}{v:Option Vr}{idx:Int}{f:Value}{there:Bool}(h:iY W v idx f there)(h':EC W v f)(hb:∀(b:Nat) (u:Value) (T:TypeId),W.heap[b]? =some (.cells #[u] T (0,0))→W'.heap[b]? =W.heap[b]?):iY W' v idx f there:=by
 refine ui h fun b _ y b1 b2 hy hf hbb=>?_
 obtain⟨c1,c2,T1,T2,hf',k1,k2⟩:=h' y hy
 rw[hf'] at hf
 obtain⟨rfl,rfl⟩:c1=b1∧c2=b2:=by simpa using hf
 rcases hbb with rfl | rfl
 ·exact hb _ _ _ k1
 ·exact hb _ _ _ k2
theorem Xy {W:World}{b10:Nat}{u0 u1:Value}{T:TypeId}(h:Bk W b10 T [u0,u1])(x y:Value):∀(b:Nat) (u:Value) (T':TypeId),W.heap[b]? =some (.cells #[u] T' (0,0))→((W.setCell ⟨b10,0,none⟩ x).setCell ⟨b10,1,none⟩ y).heap[b]? =W.heap[b]?:=fun b u T' hb=>by
 have hne:b≠b10:=fun e=>by
  subst e
  have h':W.heap[b]? =some (.cells #[u0,u1] T (0,0)):=h
  rw[h'] at hb
  have:=zx hb
  injection this with e
  have:=congrArg Array.size e
  simp at this
 exact (Below.heap_setCell _ ⟨b10,1,none⟩ y b hne).trans (Below.heap_setCell W ⟨b10,0,none⟩ x b hne)
theorem Xi.box {w W:World}{B r:Nat}{s:ByteArray}{A:Option Addr}{n c:Nat}{l:List ay}{e:List Value}(h:Xi w W B r s A n c l e){b10 j:Nat}(u:Value)(hr:r≠b10)(hB:B≤b10)(hrow:l≠[]→∀a,A=some a→a.block≠b10):Xi w (W.setCell ⟨b10,j,none⟩ u) B r s A n c l e:=by
 have h2:=h.hB
 exact⟨⟨⟨h.f.1.1.other hr u,h.f.1.2.1.ne hrow u,h.f.1.2.2⟩,h.f.2.1.setCell (by show w.heap.size≤b10;omega) u,h.f.2.2.1.other (by show w.heap.size≠b10;omega) u,by simpa using h.f.2.2.2⟩,h.b1.other (by show w.heap.size+1≠b10;omega) u,h.hB⟩
set_option maxRecDepth 100000 in
set_option maxHeartbeats 8000000 in
theorem ahb {w0 w:World}(hG:gJ w0)(hb0:Below w0.heap.size w0 w){x:dN}(h:bW w0.heap.size w x)(d z:Int)(hd:pK (mP x.2.1) d=true)(hz:pK (oW x.2.1) z=true):
 Calls Tryz.prog 38 #[iX x,.int .i64 d,.int .i64 z] w fun e w'=>∃A' c',e= .returned (.tuple #[.agg #[.string (aa x.2.1.2.1),.slice A' (opsL x.2.1.2.2.2.2).length c'],.bool true])∧Rd w' (fun _=>True) A' (bE (mr (mP x.2.1) (oW x.2.1) (opsL x.2.1.2.2.2.2) d z))∧Below w.heap.size w w':=by
 obtain⟨h1,h2,h3⟩:=Eg h
 have hF:=jo h.d h.k
 have hup:=Oh (abd h.d h.k)
 have hlen:=xk h.d
 have C3:Hid (∀W,Below w.heap.size w W→Calls Tryz.prog 78 #[iX x] W fun e w'=>∃idx f there,e= .returned (.tuple #[.agg #[.int .i64 idx,f],.bool there])∧(iY w' (mP x.2.1) idx f there∧EC w' (mP x.2.1) f∧f.oneCell'=true)∧Below W.heap.size W w'):=fun W hb=>(Cq hG (hb0.trans (hb.mono hb0.size)) h.d h.k (h.r.after hb)).1
 have C4:Hid (∀W,Below w.heap.size w W→Calls Tryz.prog 79 #[iX x] W fun e w'=>∃idx f there,e= .returned (.tuple #[.agg #[.int .i64 idx,f],.bool there])∧(iY w' (oW x.2.1) idx f there∧EC w' (oW x.2.1) f∧f.oneCell'=true)∧Below W.heap.size W w'):=fun W hb=>(Cq hG (hb0.trans (hb.mono hb0.size)) h.d h.k (h.r.after hb)).2
 have hvd:=fun y hy=>(hF.vd y hy).1
 have Kz:=fun y hy=>(hF.vn y hy).1
 have C2:Hid (∀W,Below w.heap.size w W→Calls Tryz.prog 76 #[.string (aa x.2.1.2.1),.slice x.2.2.1 (x.2.1.2.2.2.2.length / 3) x.2.2.2] W fun e w'=>∃A2 c2,e= .returned (.agg #[.string (aa x.2.1.2.1),.slice A2 (x.2.1.2.2.2.2.length / 3) c2])∧Ow w' W.heap.size A2 (opsL x.2.1.2.2.2.2)∧x.2.1.2.2.2.2.length / 3≤c2∧Below W.heap.size W w'):=fun W hb=>by
  have:=xx (aa x.2.1.2.1) x.2.2.1 (opsL x.2.1.2.2.2.2) (x.2.1.2.2.2.2.length / 3) x.2.2.2 W _ (by rw[aA];omega) h2 (by omega) (h1.after hb)
  rwa [hup] at this
 rw[← h2]
 unfold iX fK at C3 C4 ⊢
 obtain⟨⟨p,o⟩,dd,A0,c0⟩:=x
 simp only at hd hz h2 h3 C2 C3 C4 hvd Kz ⊢
 have H2:=zz h2
 have H3:=zz h3
 generalize mP dd=vd at hd C3 hvd ⊢
 generalize oW dd=vn at hz C4 Kz ⊢
 have HVD:=zz hvd
 have HVN:=zz Kz
 generalize opsL dd.2.2.2.2=l at C2 hvd Kz H2 H3 HVD HVN ⊢
 generalize dd.2.2.2.2.length / 3=n at C2 C3 C4 H2 ⊢
 generalize aa dd.2.1=s at C2 C3 C4 ⊢
 generalize aa dd.2.2.1=ex at C3 C4 ⊢
 generalize dd.2.2.2.1=al at C3 C4 ⊢
 have CP:Hid (∀(B r:Nat) (A:Option Addr) (c:Nat) (L:List ay) W f idx x there v,iY W v idx f there→EC W v f→B≤W.heap.size→(∀y,v=some y→y.1 < l.length)→L.length=l.length→Rest B r s true A n c L W→pK v x=true→Calls Tryz.prog 80 #[.agg #[.int .i64 idx,f],.bool there,.int .i64 x,.pointer (some ⟨r,0,none⟩)] W fun e w'=>e= .returned (.bool true)∧Rest B r s true A n c (o9 v L x) w'∧Below B W w'∧(∀k,k < W.heap.size→(L≠[]→∀a,A=some a→a.block≠k)→w'.heap[k]? =W.heap[k]?)):=fun B r A c L W f idx x there v hv hvb hB hl hL hr hx=>by
  refine af4 B r s A n c L W f idx x there v hv hB (fun y hy=>by rw[hL];exact hl y hy) (by rw[hL];exact H2.out) (by rw[hL];exact H3.out) hr hx fun y b1 b2 hy hf=>?_
  obtain⟨b1',b2',T1,T2,hf',k1,k2⟩:=hvb y hy
  rw[hf'] at hf
  obtain⟨rfl,rfl⟩:b1'=b1∧b2'=b2:=by
   injection hf with _ _ e
   simp at e
   exact e
  exact⟨.inr (ZN hr.2.1 k1),.inr (ZN hr.2.1 k2)⟩
 have HA:Hid (Below w.heap.size w ((w.alloc (.cells #[.int .i64 (p:Int),.int .u8 (o:Int),.string s,.slice A0 n c0,.string ex,.bool al] 49)).alloc (.cells #[.string ⟨#[]⟩,.slice none 0 0] 24))):=((zo _ _).alloc (zu _) _).alloc (by simp) _
 have fE:Hid (Bk ((w.alloc (.cells #[.int .i64 (p:Int),.int .u8 (o:Int),.string s,.slice A0 n c0,.string ex,.bool al] 49)).alloc (.cells #[.string ⟨#[]⟩,.slice none 0 0] 24)) w.heap.size 49 [.int .i64 (p:Int),.int .u8 (o:Int),.string s,.slice A0 n c0,.string ex,.bool al]):=(Bk.new w _ _).alloc _
 have kE:Hid (Bk ((w.alloc (.cells #[.int .i64 (p:Int),.int .u8 (o:Int),.string s,.slice A0 n c0,.string ex,.bool al] 49)).alloc (.cells #[.string ⟨#[]⟩,.slice none 0 0] 24)) (w.heap.size+1) 24 [.string ⟨#[]⟩,.slice none 0 0]):=by
  have:=Bk.new (w.alloc (.cells #[.int .i64 (p:Int),.int .u8 (o:Int),.string s,.slice A0 n c0,.string ex,.bool al] 49)) 24 [.string ⟨#[]⟩,.slice none 0 0]
  rwa [World.size_alloc] at this
 have hmf:∀(fn:Fn) (first cap:Array Value) (w:World),(Instr.makeFunc fn first cap).run Tryz.prog w= .ok (.func fn first cap) w:=fun _ _ _ _=>rfl
 have hs0:((w.alloc (.cells #[.int .i64 (p:Int),.int .u8 (o:Int),.string s,.slice A0 n c0,.string ex,.bool al] 49)).alloc (.cells #[.string ⟨#[]⟩,.slice none 0 0] 24)).heap.size=w.heap.size+2:=by simp
 clear h h1 h2 h3 hF hup hlen hG hb0 hvd Kz
 go_enter Tryz.func38,Tryz.ntmps38
 go_upto_region 1 with fail
 generalize ((w.alloc (.cells #[.int .i64 (p:Int),.int .u8 (o:Int),.string s,.slice A0 n c0,.string ex,.bool al] 49)).alloc (.cells #[.string ⟨#[]⟩,.slice none 0 0] 24))=W0 at HA fE kE hs0 ⊢
 have x2:=fE.out.cell 2 rfl
 have x3:=fE.out.cell 3 rfl
 go_upto_region 2 with (go_at_call 76;refine (C2.out _ HA.out).mono ?_;rintro e w2 ⟨A2,c2,rfl,ho,hc,hb⟩;have H3:Hid (Xi w (w2.alloc (.cells #[.string s,.slice A2 n c2] 24)) W0.heap.size w2.heap.size s A2 n c2 l [.int .i64 (p:Int),.int .u8 (o:Int),.string s,.slice A0 n c0,.string ex,.bool al]):=⟨xS ho (fE.out.after hb) (HA.out.trans (hb.mono HA.out.size)) hb.size s n c2,(kE.out.after hb).alloc _,by rw[hs0];omega⟩;have HL2:=zz hb.size;clear hb ho hc)
 clear x2 x3 fE kE C2
 obtain⟨r,hr⟩:∃r,w2.heap.size=r:=⟨_,rfl⟩
 rw[hr] at H3 HL2 ⊢
 generalize w2.alloc (.cells #[.string s,.slice A2 n c2] 24)=W2 at H3 ⊢
 clear hr
 obtain⟨B,hB⟩:∃B,W0.heap.size=B:=⟨_,rfl⟩
 rw[hB] at H3 HL2 hs0
 have b0:=H3.out.f.2.2.1.cell 0 rfl
 have b1:=H3.out.f.2.2.1.cell 1 rfl
 have b2:=H3.out.f.2.2.1.cell 2 rfl
 have b3:=H3.out.f.2.2.1.cell 3 rfl
 have b4:=H3.out.f.2.2.1.cell 4 rfl
 have b5:=H3.out.f.2.2.1.cell 5 rfl
 go_upto_region 4 with (go_at_call 78;refine (C3.out _ H3.out.f.2.1).mono ?_;rintro e w4 ⟨idx,f,there,rfl,hv,hb⟩;have H4:=zz (H3.out.call hb);have HV:=zz hv;have hst:∀(a:Addr) (m:Mode) (W:World),Sem.run Tryz.prog (store a f m) W=stored Tryz.prog W a f m:=fun a m W=>run_store Tryz.prog W a f m hv.2.2;clear hb hv)
 clear b0 b1 b2 b3 b4 b5 C3 H3 HA
 obtain⟨b10,xM⟩:∃b,w4.heap.size=b:=⟨_,rfl⟩
 have hal:=(zo w4.heap.size w4).alloc (zu _) (.cells #[.int .i64 idx,f] 146)
 have H5:=zz (H4.out.call hal)
 have K10:=zz (Bk.new w4 146 [.int .i64 idx,f])
 have HV5:=zz (zy (EX HV.out.1 hal) (Ag HV.out.2.1 (fun b u T hb=>hal.block b (lt_of_heap hb))))
 have aui:=zz (show l≠[]→∀a,A2=some a→a.block < b10 from fun hl a ha=>xM ▸ H4.out.amu hl a ha)
 have aur:=zz (show B≤b10 from xM ▸ H4.out.f.2.2.2)
 have ayt:=zz (show r < b10 from xM ▸ H4.out.f.1.1.lt)
 clear hal HV H4
 rw[xM] at K10 ⊢
 generalize w4.alloc (.cells #[.int .i64 idx,f] 146)=W5 at H5 K10 HV5 ⊢
 clear xM
 have k0:=K10.out.cell 0 rfl
 have k1:=K10.out.cell 1 rfl
 have CP1:=zz (CP.out B r A2 c2 l W5 f idx d there vd HV5.out.1 HV5.out.2 H5.out.f.2.2.2 HVD.out rfl H5.out.f.1 hd)
 clear HV5
 go_upto_region 5 with (go_at_call 80;refine CP1.out.mono ?_;rintro e w6 ⟨rfl,hr6,hb6,hk6⟩;have H6:=zz (H5.out.put hr6 hb6);have K6:Hid (Bk w6 b10 146 [.int .i64 idx,f]):=(hk6 b10 K10.out.lt (fun hl a ha=>by have:=aui.out hl a ha;omega)).trans K10.out;clear hr6 hb6 hk6)
 clear k0 k1 K10 H5 CP1 hst
 have b0:=H6.out.f.2.2.1.cell 0 rfl
 have b1:=H6.out.f.2.2.1.cell 1 rfl
 have b2:=H6.out.f.2.2.1.cell 2 rfl
 have b3:=H6.out.f.2.2.1.cell 3 rfl
 have b4:=H6.out.f.2.2.1.cell 4 rfl
 have b5:=H6.out.f.2.2.1.cell 5 rfl
 go_upto_region 6 with (go_at_call 79;refine (C4.out _ H6.out.f.2.1).mono ?_;rintro e w7 ⟨Nk,f2,KZ,rfl,hv,hb⟩;have H7:=zz (H6.out.call hb);have HW:=zz hv;have axr:∀(a:Addr) (m:Mode) (W:World),Sem.run Tryz.prog (store a f2 m) W=stored Tryz.prog W a f2 m:=fun a m W=>run_store Tryz.prog W a f2 m hv.2.2;have K7:=zz (K6.out.after hb);have k0:=K7.out.cell 0 rfl;have k1:=K7.out.cell 1 rfl;have g0:=K7.out.frozen 0;have g1:=K7.out.frozen 1;clear hb hv)
 clear b0 b1 b2 b3 b4 b5 k0 k1 g0 g1 C4 H6 K6 axr
 have hkp:=Xy K7.out (.int .i64 Nk) f2
 have HV8:=zz (zy (KP HW.out.1 HW.out.2.1 hkp) (Ag HW.out.2.1 hkp))
 have K8:=zz ((K7.out.set 0 (.int .i64 Nk)).set 1 f2)
 have KC:o9 vd l d≠[]→∀a,A2=some a→a.block≠b10:=fun hl a ha=>by
  have hl0:l≠[]:=fun e=>hl (List.eq_nil_of_length_eq_zero (by rw[oK,e];rfl))
  have:=aui.out hl0 a ha
  omega
 have axs:=ayt.out
 have H8:=zz ((H7.out.box (b10:=b10) (j:=0) (.int .i64 Nk) (by omega) aur.out KC).box (b10:=b10) (j:=1) f2 (by omega) aur.out KC)
 clear hkp KC HW K7 H7 axs
 generalize ((w7.setCell ⟨b10,0,none⟩ (.int .i64 Nk)).setCell ⟨b10,1,none⟩ f2)=W8 at HV8 K8 H8 ⊢
 have k0:=K8.out.cell 0 rfl
 have k1:=K8.out.cell 1 rfl
 have CP2:=zz (CP.out B r A2 c2 (o9 vd l d) W8 f2 Nk z KZ vn HV8.out.1 HV8.out.2 H8.out.f.2.2.2 HVN.out (oK vd l d) H8.out.f.1 hz)
 clear CP HV8
 go_upto_region 8 with (go_at_call 80;refine CP2.out.mono ?_;rintro e w9 ⟨rfl,hr9,DR,hk9⟩;have H9:=zz (H8.out.put hr9 DR);have r0:=hr9.1.cell 0 rfl;have r1:=hr9.1.cell 1 rfl;have q0:=H9.out.b1.cell 0 rfl;have q1:=H9.out.b1.cell 1 rfl;have g0:=H9.out.b1.frozen 0;have g1:=H9.out.b1.frozen 1;clear hr9 DR hk9)
 have kk:=zz ((H9.out.b1.set 0 (.string s)).set 1 (.slice A2 n c2))
 have HO:Hid (Rd ((w9.setCell ⟨w.heap.size+1,0,none⟩ (.string s)).setCell ⟨w.heap.size+1,1,none⟩ (.slice A2 n c2)) (fun _=>True) A2 (bE (o9 vn (o9 vd l d) z))):=by
  have hB2:=H9.out.hB
  exact (((H9.out.f.1.2.1.other (p:=⟨w.heap.size+1,0,none⟩) (by show w.heap.size+1 < B;omega) _).other (p:=⟨w.heap.size+1,1,none⟩) (by show w.heap.size+1 < B;omega) _).rd).gz fun _ _=>trivial
 have HBl:=zz ((H9.out.f.2.1.setCell (p:=⟨w.heap.size+1,0,none⟩) (Nat.le_succ _) (.string s)).setCell (p:=⟨w.heap.size+1,1,none⟩) (Nat.le_succ _) (.slice A2 n c2))
 clear k0 k1 K8 CP2 H8
 go_wp2
 have c0:=kk.out.cell 0 rfl
 have c1:=kk.out.cell 1 rfl
 have hnl:n=l.length:=H2.out
 refine bodyPost_ret (v:=.tuple #[.agg #[.string s,.slice A2 n c2],.bool true]) (by simp[results,Tryz.results38,go_sem,c0,c1]) rfl ⟨A2,c2,rfl,HO.out,HBl.out⟩
theorem an2 {ex:List Nat}(h:lU ex DZ=true):∀x∈ex,x < 128:=by
 simp only[DZ] at h
 intro x hx
 have key:∀l:List (List Nat),lU ex l=true→ex∈l:=fun l=>by
  induction l with
  |nil=>intro h;cases h
  |cons y l ih=>
   intro h
   unfold lU at h
   cases he:jS ex y with
   |true=>rw[fA he];exact zn
   |false=>rw[he] at h;exact zm _ (ih h)
 have:=key _ h
 simp only[List.mem_cons,List.not_mem_nil,or_false] at this
 rcases this with rfl | rfl | rfl | rfl | rfl | rfl <;> simp at hx <;> omega
theorem FR {W W':World}{base n size:Nat}{e:TypeId}{v:Value}{xs:List Value}(h:W.ownsRow base e size v n xs)(hk:∀k,v.ownBlock=some k→W'.heap[k]? =W.heap[k]?):W'.ownsRow base e size v n xs:=by
 refine⟨h.1,h.2.imp id ?_⟩
 rintro ⟨g,cap,cur,rfl,p2,p3,p4⟩
 exact⟨g,cap,cur,rfl,p2,(hk g rfl).trans p3,p4⟩
theorem FN (p:Nat):(bL p).length≤2:=by
 unfold bL
 split <;> decide
structure Ck (w W:World)(bx rb:Nat)(A:Option Addr)(N c r:Nat)(pf:List Nat)(AP:Option Addr)(cP:Nat)(e0 e1 e2 e3 e4 e5:Value)(d n:Int):Prop where
 bk:Bk W bx 103 (gX A N c r (.slice AP pf.length cP) e0 e1 e2 e3 e4 e5 d n)
 own:W.ownsRow w.heap.size 5 1 (.slice AP pf.length cP) pf.length (u8V pf)
 nil:pf=[]→AP=none∧cP=0
 res:Bk W rb 35 [.int .i64 0,.slice none 0 0,.string ⟨#[]⟩,.slice none 0 0,.bool false]
 gr:w.grownBy W (some bx)
 rb:w.heap.size≤rb
section
variable {w W W':World} {bx rb:Nat} {A:Option Addr} {N c r:Nat} {pf:List Nat} {AP:Option Addr} {cP:Nat} {e0 e1 e2 e3 e4 e5:Value} {d n:Int}
theorem Ck.after (h:Ck w W bx rb A N c r pf AP cP e0 e1 e2 e3 e4 e5 d n)(hb:Below W.heap.size W W'):Ck w W' bx rb A N c r pf AP cP e0 e1 e2 e3 e4 e5 d n:=
 ⟨h.bk.after hb,FQ h.own hb,h.nil,h.res.after hb,iJ h.gr (grownBy_below hb _),h.rb⟩
theorem Ck.Zy (h:Ck w W bx rb A N c r pf AP cP e0 e1 e2 e3 e4 e5 d n):some bx≠(Value.slice AP pf.length cP).ownBlock:=own_ne h.own h.bk (by decide)
theorem Ck.amE (h:Ck w W bx rb A N c r pf AP cP e0 e1 e2 e3 e4 e5 d n):some rb≠(Value.slice AP pf.length cP).ownBlock:=own_ne h.own h.res (by decide)
theorem Ck.write (h:Ck w W bx rb A N c r pf AP cP e0 e1 e2 e3 e4 e5 d n)(hne:rb≠bx){r':Nat}{e0' e1' e2' e3' e4' e5':Value}{d' n':Int}(hb:Bk W' bx 103 (gX A N c r' (.slice AP pf.length cP) e0' e1' e2' e3' e4' e5' d' n'))(hg:W.grownBy W' (some bx)):Ck w W' bx rb A N c r' pf AP cP e0' e1' e2' e3' e4' e5' d' n':=by
 refine⟨hb,FR h.own fun k hk=>hg.block k ?_ fun e=>?_,h.nil,(hg.block rb h.res.lt fun e=>hne (zx e)).trans h.res,iJ h.gr hg,h.rb⟩
 ·exact (h.own.lt k hk).2
 ·obtain rfl:=zx e
  exact h.Zy hk.symm
theorem Ck.below {w0:World}(h:Ck w W bx rb A N c r pf AP cP e0 e1 e2 e3 e4 e5 d n)(hb0:Below w0.heap.size w0 w)(hbx:w0.heap.size≤bx):Below w0.heap.size w0 W:=hb0.grown h.gr hb0.size fun k e=>by rw[← Option.some.inj e];exact hbx
theorem Ck.app (h:Ck w W bx rb A N c r pf AP cP e0 e1 e2 e3 e4 e5 d n)(hne:rb≠bx){z:Nat}{g c':Nat}(hown:W'.ownsRow w.heap.size 5 1 (.slice (some ⟨g,0,none⟩) (pf.length+1) c') (pf.length+1) (u8V pf++[.int .u8 (z:Int)]))(hg:W.grownBy W' (Value.slice AP pf.length cP).ownBlock):
 Bk W' bx 103 (gX A N c r (.slice AP pf.length cP) e0 e1 e2 e3 e4 e5 d n)∧Ck w (W'.setCell ⟨bx,2,none⟩ (.slice (some ⟨g,0,none⟩) (pf.length+1) c')) bx rb A N c r (pf++[z]) (some ⟨g,0,none⟩) c' e0 e1 e2 e3 e4 e5 d n:=by
 have hbk:Bk W' bx 103 (gX A N c r (.slice AP pf.length cP) e0 e1 e2 e3 e4 e5 d n):=(hg.block bx h.bk.lt h.Zy).trans h.bk
 have hres:Bk W' rb 35 [.int .i64 0,.slice none 0 0,.string ⟨#[]⟩,.slice none 0 0,.bool false]:=(hg.block rb h.res.lt h.amE).trans h.res
 have hl:(pf++[z]).length=pf.length+1:=by simp
 have hv:u8V (pf++[z])=u8V pf++[.int .u8 (z:Int)]:=by simp[u8V]
 refine⟨hbk,?_,?_,fun e=>by simp at e,hres.other hne _,?_,h.rb⟩
 ·have:=hbk.set 2 (.slice (some ⟨g,0,none⟩) (pf.length+1) c')
  rw[hl]
  exact this
 ·rw[hl,hv]
  refine FR hown fun k hk=>Below.heap_setCell W' ⟨bx,2,none⟩ _ k fun e=>?_
  have hkb:k=bx:=e
  subst hkb
  exact own_ne hown hbk (by decide) hk.symm
 ·refine⟨hg.os.trans h.gr.os,hg.tape.trans h.gr.tape,hg.output.trans h.gr.output,zt h.gr.size (by simpa using hg.size),fun k hk hkb=>?_⟩
  have h1:=h.gr.block k hk hkb
  have h2:=hg.block k (zq hk h.gr.size) fun e=>by
   have:=(h.own.lt k e.symm).1
   omega
  exact (Below.heap_setCell W' ⟨bx,2,none⟩ _ k fun e=>hkb (by rw[show k=bx from e])).trans (h2.trans h1)
theorem own_base' {w:World}{n0 n k size:Nat}{e:TypeId}{v:Value}{xs:List Value}(h:w.ownsRow n0 e size v k xs)(hn:n≤n0):w.ownsRow n e size v k xs:=by
 refine⟨h.1,h.2.imp id ?_⟩
 rintro ⟨g,cap,cur,p1,p2,p3⟩
 exact⟨g,cap,cur,p1,by omega,p3⟩
end
structure ItH (p o:Nat)(ex:List Nat)(d n:Int)(V:List Value)(a1:Nat):Prop where
 pre:∀(r z:Nat),(bL p)[r]? =some z→V[r]? =some (.int .u8 (z:Int))
 early:5≤p→Ext V [100] (bL p).length 0 0 ((bL p).length+1) d 0∧V[(bL p).length+1]? =some (.int .u8 (o:Int))∧n=0∧a1=(bL p).length+2
 late:p < 5→V[(bL p).length]? =some (.int .u8 (o:Int))∧Ext V ex ((bL p).length+1) 0 0 a1 d n
theorem ai6 {p r z:Nat}(hp:p≤6)(hz:(bL p)[r]? =some z):(bL p).take r∈sD∧LM ((bL p).take r) < 5∧z < 256∧∃d,gL (LM ((bL p).take r)) z=some d∧d.1=2:=by
 have uF:p=0∨p=1∨p=2∨p=3∨p=4∨p=5∨p=6:=by omega
 rcases uF with rfl | rfl | rfl | rfl | rfl | rfl | rfl
 ·simp[bL] at hz
 all_goals
  match r,hz with
  |0,hz=>
   obtain rfl:=zx hz
   refine⟨by decide,by decide,by decide,?_⟩
   exact⟨_,rfl,rfl⟩
  |1,hz=>
   first
    |(simp[bL] at hz;done)
    |(obtain rfl:=zx hz
      refine⟨by decide,by decide,by decide,?_⟩
      exact⟨_,rfl,rfl⟩)
  |r+2,hz=>simp[bL] at hz
theorem afi {p:Nat}(hp:p≤6):bL p∈sD∧LM (bL p)=p:=by
 have uF:p=0∨p=1∨p=2∨p=3∨p=4∨p=5∨p=6:=by omega
 rcases uF with rfl | rfl | rfl | rfl | rfl | rfl | rfl <;> exact⟨by decide,rfl⟩
theorem aia {r:Int×Int}{v:Option Vr}{z:Int}(hr:wR r v=true)(hz:pK v z=true):r.1≤z∧z≤r.2:=by
 obtain⟨a,b⟩:=r
 cases v with
 |none=>
  simp only[wR,Bool.and_eq_true] at hr
  have h1:=jd hr.1
  have h2:=jd hr.2
  have h3:z=0:=of_decide_eq_true hz
  obtain rfl:a=0:=h1
  obtain rfl:b=0:=h2
  subst h3
  exact⟨Int.le_refl _,Int.le_refl _⟩
 |some v=>
  simp only[wR,Bool.and_eq_true] at hr
  have h1:=jd hr.1
  have h2:=jd hr.2
  obtain rfl:a=v.2.1:=h1
  obtain rfl:b=v.2.2:=h2
  simp only[pK,qU,Bool.and_eq_true,decide_eq_true_eq] at hz
  exact hz
theorem amO {p o:Nat}{d:aJ}(hd:gL p o=some d){s:ByteArray}{lc:List ay}(h:fZ s lc d=true):
 pK (mP d) (JZ d lc)=true∧pK (oW d) (I5 d lc)=true∧LX d.2.2.1 (JZ d lc) (I5 d lc)=true∧mr (mP d) (oW d) (opsL d.2.2.2.2) (JZ d lc) (I5 d lc)=lc:=by
 have hm:=fV h
 have hs:=fP hm
 have he:=jo hd hs.1
 have h2:=DW _ _ _ hm
 rw[h,← xU he hs.2.2.2] at h2
 have h2:=h2.symm
 have hf:=Vl hs.2.2.2 he.vd he.vn he.ne h2
 unfold nE at h2
 simp only[Bool.and_eq_true] at h2
 obtain⟨h3,h4,_⟩:=h2
 have key:∀(v:Option Vr) (l:List ay),takeB v l=true→pK v (takeN v l)=true:=fun v l hv=>by
  cases v with
  |none=>rfl
  |some v=>exact hv
 have k1:=key _ _ h3
 have k2:=key _ _ h4
 refine⟨k1,k2,?_,hf⟩
 have r1:=aia he.rd k1
 have r2:=aia he.rn k2
 unfold LX
 simp only[Bool.and_eq_true,decide_eq_true_eq]
 exact⟨r1,r2⟩
theorem CJ {z:Int}(h1: -128≤z)(h2:z≤127):Ls (z % 256)=z:=by
 unfold Ls
 split <;> omega
theorem axe {n:Int}(h0:0≤n)(h1:n≤65535):n % 256+(n.fdiv 256) % 256 * 256=n:=by
 rw[awt]
 omega
def nA (d n:Int):List Nat→List Value
 |[]=>[]
 |c::l=>cond (Nat.beq c 100) (.int .u8 (d % 256)::nA d n l) (cond (Nat.beq c 119) (.int .u8 (n % 256):: .int .u8 ((n.fdiv 256) % 256)::nA d n l) (.int .u8 (n % 256)::nA d n l))
theorem ahe {ex:List Nat}(hex:ex=[]∨ex=[110]∨ex=[101]∨ex=[119]∨ex=[100]∨ex=[100,110]){d n:Int}(hok:LX ex d n=true)(V more:List Value)(a:Nat)(hV:V.drop a=nA d n ex++more):Ext V ex a 0 0 (a+(nA d n ex).length) d n:=by
 have g0:V[a]? =(nA d n ex++more)[0]?:=by rw[← hV,List.getElem?_drop,Nat.add_zero]
 have g1:V[a+1]? =(nA d n ex++more)[1]?:=by rw[← hV,List.getElem?_drop]
 rcases hex with rfl | rfl | rfl | rfl | rfl | rfl
 ·have k:=jE (a:=0) (b:=0) (c:=0) (d:=0) hok rfl rfl
  exact⟨rfl,by omega,by omega⟩
 ·have k:=jE (a:=0) (b:=0) (c:=0) (d:=255) hok rfl rfl
  exact .inr (.inr (.inl ⟨rfl,n % 256,g0,by omega,by omega,rfl,by omega,by omega⟩))
 ·have k:=jE (a:=0) (b:=0) (c:=-128) (d:=127) hok rfl rfl
  exact .inr (.inl ⟨rfl,n % 256,g0,by omega,by omega,rfl,by omega,CJ k.2.1 k.2.2⟩)
 ·have k:=jE (a:=0) (b:=0) (c:=0) (d:=65535) hok rfl rfl
  exact .inr (.inr (.inr ⟨rfl,n % 256,(n.fdiv 256) % 256,g0,by omega,by omega,g1,by omega,by omega,rfl,by omega,axe k.2.1 k.2.2⟩))
 ·have k:=jE (a:=-128) (b:=127) (c:=0) (d:=0) hok rfl rfl
  exact .inl ⟨rfl,d % 256,g0,by omega,by omega,rfl,CJ k.1.1 k.1.2,by omega⟩
 ·have k:=jE (a:=-128) (b:=127) (c:=0) (d:=255) hok rfl rfl
  exact .inl ⟨rfl,d % 256,g0,by omega,by omega,.inr (.inr (.inl ⟨rfl,n % 256,g1,by omega,by omega,rfl,CJ k.1.1 k.1.2,by omega⟩))⟩
theorem abC (d n:Int):∀ex:List Nat,aG iy (uX d n ex)=nA d n ex
 |[]=>rfl
 |c::l=>by
  unfold uX nA
  cases Nat.beq c 100 <;> cases Nat.beq c 119 <;> simp only[cond_true,cond_false,aG,abC d n l] <;> rfl
theorem ahQ:∀l:List Nat,aG iy (SS l)=l.map fun (c:Nat)=>Value.int .u8 (c:Int)
 |[]=>rfl
 |c::l=>by
  simp only[SS,aG,ahQ l,List.map_cons]
  rfl
theorem an3 (p o:Nat)(ex:List Nat)(d n:Int):aG iy (D5 p (.int .u8 (o:Int)) ex d n)=(bL p).map (fun (c:Nat)=>Value.int .u8 (c:Int))++cond (Nat.ble 5 p) (.int .u8 (d % 256):: .int .u8 (o:Int)::nA d n ex.tail) (.int .u8 (o:Int)::nA d n ex):=by
 unfold D5
 rw[nL,ahQ]
 cases Nat.ble 5 p <;> simp only[cond_true,cond_false,aG,abC] <;> rfl
theorem anc {p o:Nat}{d:aJ}(hd:gL p o=some d)(hk:d.1=1){dv nv:Int}(hok:LX d.2.2.1 dv nv=true)(more:List Value):
 ItH p o d.2.2.1 dv nv (jg p (.int .u8 (o:Int)) d.2.2.1 dv nv++more) (jg p (.int .u8 (o:Int)) d.2.2.1 dv nv).length∧1≤(jg p (.int .u8 (o:Int)) d.2.2.1 dv nv).length∧(jg p (.int .u8 (o:Int)) d.2.2.1 dv nv).length≤4:=by
 obtain⟨q1,q2,q3,q4⟩:=acC hd hk
 generalize d.2.2.1=ex at q1 hok
 unfold jg
 rw[if_pos hok,an3]
 unfold acv at q1
 cases hp:Nat.ble 5 p with
 |true=>
  rw[hp] at q1
  obtain rfl:=fA (show jS ex [100]=true from q1)
  have k:=jE (a:=-128) (b:=127) (c:=0) (d:=0) hok rfl rfl
  have hp5:=Nat.le_of_ble_eq_true hp
  obtain rfl:nv=0:=by omega
  have uF:p=5∨p=6:=by omega
  rcases uF with rfl | rfl
  all_goals
   refine⟨⟨fun r z h=>?_,fun _=>⟨.inl ⟨rfl,dv % 256,rfl,by omega,by omega,rfl,CJ k.1.1 k.1.2,rfl⟩,rfl,rfl,rfl⟩,fun h=>absurd h (by omega)⟩,by simp[bL,nA],by simp[bL,nA]⟩
   match r,h with
   |0,h=>obtain rfl:=zx h;rfl
   |1,h=>obtain rfl:=zx h;rfl
   |r+2,h=>simp[bL] at h
 |false=>
  rw[hp] at q1
  simp only[cond_false,Bool.or_eq_true] at q1
  have hex:ex=[]∨ex=[110]∨ex=[101]∨ex=[119]∨ex=[100]∨ex=[100,110]:=by
   rcases q1 with ((((he | he) | he) | he) | he) | he <;> simp[fA he]
  have hp5:¬5≤p:=fun h=>by rw[Nat.ble_eq_true_of_le h] at hp;cases hp
  have hl2:(nA dv nv ex).length≤2:=by
   rcases hex with rfl | rfl | rfl | rfl | rfl | rfl <;> exact Nat.le_of_ble_eq_true rfl
  have hl1:(bL p).length≤1:=by
   have uF:p=0∨p=1∨p=2∨p=3∨p=4:=by omega
   rcases uF with rfl | rfl | rfl | rfl | rfl <;> simp[bL]
  have hlen:((bL p).map (fun (c:Nat)=>Value.int .u8 (c:Int))++cond false (.int .u8 (dv % 256):: .int .u8 (o:Int)::nA dv nv ex.tail) (.int .u8 (o:Int)::nA dv nv ex)).length=(bL p).length+1+(nA dv nv ex).length:=by
   simp only[cond_false,List.length_append,List.length_map,List.length_cons]
   omega
  rw[hlen]
  refine⟨⟨fun r z h=>?_,fun h=>absurd h hp5,fun _=>⟨?_,?_⟩⟩,by omega,by omega⟩
  ·rw[List.append_assoc,List.getElem?_append_left (by rw[List.length_map];exact (List.getElem?_eq_some_iff.1 h).1),List.getElem?_map,h]
   rfl
  ·rw[List.append_assoc,List.getElem?_append_right (by rw[List.length_map];omega),List.length_map,Nat.sub_self]
   rfl
  ·refine ahe hex hok _ more ((bL p).length+1) ?_
   have uF:p=0∨p=1∨p=2∨p=3∨p=4:=by omega
   rcases uF with rfl | rfl | rfl | rfl | rfl <;> rfl
def aiW (s:ByteArray)(l:List ay)(code:Int):Prop:=
 (eF s l≠0∧code=(eF s l:Nat))∨(eF s l=0∧∃nm,nm∈dY∧s=aa nm∧nV (aa nm) (aK nm l) code)
theorem Ur (s:ByteArray)(A:Option Addr)(l:List ay)(n c:Nat)(w:World)(p:Nat→Prop)(hG:gJ w)(hn:l.length=n)(hm:(n:Int)≤1000)(h64:∀o∈l,mQ o)(h:Rd w p A (bE l)):
 Calls Tryz.prog 6 #[.agg #[.string s,.slice A n c]] w fun e w'=>∃E code,e= .returned (.tuple #[E,.int .i64 code])∧aoK E∧aiW s l code∧Below w.heap.size w w':=by
 by_cases hc:eF s l=0
 ·obtain⟨h1,h2,h3⟩:=nK hc
  obtain⟨nm,hnm,hs⟩:∃nm,nm∈dY∧aa nm=s:=by
   unfold dW at h1
   obtain⟨nm,hnm,h⟩:=List.any_eq_true.1 h1
   exact⟨nm,hnm,of_decide_eq_true h⟩
  subst hs
  refine (LH nm (kK hnm) A l n c w p hG hn h2 h64 h hc).mono ?_
  rintro e w' ⟨E,code,rfl,hE,hf,hb⟩
  exact⟨E,code,rfl,hE,.inr ⟨hc,nm,hnm,rfl,Vk (yQ h3) hf⟩,hb⟩
 ·refine (Uq s A l n c w p hG hn hm h64 h hc).mono ?_
  rintro e w' ⟨E,rfl,hE,hb⟩
  exact⟨E,_,rfl,hE,.inl ⟨hc,rfl⟩,hb⟩
theorem VJ {s:ByteArray}{l:List ay}{w':World}{A':Option Addr}{n' c':Nat}{a b:Int}(ha:aeF s l w' A' n' c' a)(hb:aiW s l b):a=b:=by
 rcases ha with⟨h1,rfl,_⟩ | ⟨h1,nm,h2,rfl,h4,_⟩ <;> rcases hb with⟨k1,rfl⟩ | ⟨k1,uS,k2,k3,k4⟩
 ·rfl
 ·exact absurd k1 h1
 ·exact absurd h1 k1
 ·obtain rfl:=BU (kK h2) (kK k2) k3
  exact Vi h4 k4
structure ayP (s:ByteArray)(l:List ay)(w':World)(A':Option Addr)(n' c':Nat)(nm:List Nat)(p o:Nat)(d:aJ):Prop where
 hs:s=aa nm
 hnm:nm∈dY
 l3:l.length≤3
 p6:p≤6
 ho:o < 256
 hd:gL p o=some d
 hk:d.1=1
 al:d.2.2.2.1=false
 dn:aa d.2.1=aa nm
 put:pK (mP d) (JZ d (aK nm l))=true∧pK (oW d) (I5 d (aK nm l))=true∧LX d.2.2.1 (JZ d (aK nm l)) (I5 d (aK nm l))=true∧mr (mP d) (oW d) (opsL d.2.2.2.2) (JZ d (aK nm l)) (I5 d (aK nm l))=aK nm l
 ln:(jg p (.int .u8 (o:Int)) d.2.2.1 (JZ d (aK nm l)) (I5 d (aK nm l))).length=n'
 hc:n'≤c'
 rd:Rd w' (fun _=>True) A' (jg p (.int .u8 (o:Int)) d.2.2.1 (JZ d (aK nm l)) (I5 d (aK nm l)))
theorem acG {s:ByteArray}{l:List ay}{w':World}{A':Option Addr}{n' c':Nat}(h:aeF s l w' A' n' c' 0):∃nm p o d,ayP s l w' A' n' c' nm p o d:=by
 rcases h with⟨h1,h2,_⟩ | ⟨h1,nm,h2,h3,_,_,h5⟩
 ·exact absurd (by omega) h1
 ·obtain⟨p,o,d,q1,q2,q3,q4,q5,q6,q7⟩:=h5 rfl
  have hm:=fP (fV q4)
  exact⟨nm,p,o,d,h3,h2,(nK h1).2.1,q1,q2,q3,hm.1,hm.2.1,hm.2.2.1,amO q3 q4,q5.symm,q6,q7⟩
theorem acF {s:ByteArray}{l:List ay}{w':World}{A':Option Addr}{n' c':Nat}{code:Int}(h:aeF s l w' A' n' c' code)(hc:code≠0):n'=0:=by
 rcases h with⟨_,_,h3⟩ | ⟨_,nm,_,_,_,h5,_⟩
 ·exact h3
 ·exact h5 hc
theorem agh {d:aJ}{lc:List ay}{dv nv:Int}(h:mr (mP d) (oW d) (opsL d.2.2.2.2) dv nv=lc):(opsL d.2.2.2.2).length=lc.length:=by
 rw[← h]
 unfold mr
 rw[oK,oK]
end Go.Proofs.YtceaodnohnekkaaGreatDoor
