/- Parts of the proof of TopInstructions. -/
import Derived.Test.YtceaodnohnekkaaGreatDoorMK3
import Derived.Test.YtceaodnohnekkaaGreatDoorMK4
import Derived.Test.YtceaodnohnekkaaGreatDoorMK7
import Derived.Test.YtceaodnohnekkaaGreatDoorMK6
import Derived.Test.YtceaodnohnekkaaGreatDoorMK9
import Derived.Deep.QuietTactic
import Derived.BigQuiet
namespace Go.Proofs.YtceaodnohnekkaaGreatDoor.Ex
open Go.RowKit
def allM (f:List Nat→Bool):List (List Nat)→Bool
 |[]=>true
 |x::l=>cond (f x) (allM f l) false
theorem aV {f:List Nat→Bool}:∀{l:List (List Nat)} {x:List Nat},allM f l=true→x∈l→f x=true
 |[],_,_,h=>by cases h
 |y::l,x,h,hx=>by
  unfold allM at h
  cases hy:f y with
  |false=>rw[hy] at h;cases h
  |true=>
   rw[hy] at h
   rcases List.mem_cons.1 hx with rfl | hx
   ·exact hy
   ·exact aV h hx
def awR:List Nat:=[83,85,66,32,65,78,68,32,88,79,82,32,79,82,32,67,80]
def axb:List Nat:=[65,68,68,32,65,68,67,32,83,66,67]
def axa:List Nat:=[66,73,84,32,82,69,83,32,83,69,84,32,73,77,32,82,83,84,32,79,85,84]
def nJp:List Nat:=[74,80,32,67,65,76,76]
def acz:List (List Nat)→List (List Nat)→Bool
 |[],[]=>true
 |x::l,y::m=>cond (jS x y) (acz l m) false
 |_,_=>false
theorem D8:∀{l m:List (List Nat)},acz l m=true→l=m
 |[],[],_=>rfl
 |[],_::_,h=>by cases h
 |_::_,[],h=>by cases h
 |x::l,y::m,h=>by
  unfold acz at h
  cases hx:jS x y with
  |false=>rw[hx] at h;cases h
  |true=>
   rw[hx] at h
   rw[fA hx,D8 h]
def strsOf:List AV→Option (List (List Nat))
 |[]=>some []
 | .str l::r=>(strsOf r).map (l:: ·)
 |_::_=>none
def rowOf:Option (AV×AW)→Option (List (List Nat))
 |some (sl,W)=>match W.az with
  |[]=>match sl with
   | .aX=>some []
   | .slice b 0 0 m none=>match au b W.bl with
     |some (.cells vs _ (some 1))=>cond (Nat.beq m vs.length) (strsOf vs) none
     |_=>none
   | .slice b 0 0 m (some _)=>match au b W.bl with
     |some (.cells vs _ none)=>cond (Nat.beq m vs.length) (strsOf vs) none
     |_=>none
   |_=>none
  |_=>none
 |none=>none
theorem mW {ρ:Env}:∀{vs:List AV} {ls:List (List Nat)},strsOf vs=some ls→aG ρ vs=qw (ls.map aa)∧ls.length=vs.length
 |[],ls,h=>by
  obtain rfl:=zx h
  exact⟨rfl,rfl⟩
 |v::r,ls,h=>by
  unfold strsOf at h
  split at h
  ·rename_i e;cases e
  ·rename_i l r' e
   obtain⟨rfl,rfl⟩:=List.cons.inj e
   obtain⟨m,hm,rfl⟩:=Option.map_eq_some_iff.1 h
   obtain⟨h1,h2⟩:=mW (ρ:=ρ) hm
   exact⟨by simp only[aG,cv,h1,qw,List.map_cons],by simp[h2]⟩
  ·cases h
theorem yS {call:ag}(hC:ah Tryz.prog call){g:Nat}{args:List AV}{ls:List (List Nat)}(hr:rowOf (call g args ⟨0,[],[],bC⟩)=some ls)(hf:oks 0 args)(w:World)(hG:gJ w):
 Calls Tryz.prog g (aG iy args).toArray w fun e w'=>∃A c,e= .returned (.slice A ls.length c)∧Rd w' (fun b=>w.heap.size≤b) A (qw (ls.map aa))∧Below w.heap.size w w':=by
 unfold rowOf at hr
 split at hr
 case h_2=>cases hr
 case h_1 sl W hq=>
 split at hr
 case h_2=>cases hr
 case h_1 hm=>
 refine (rE hC hq hm hf w hG).mono ?_
 rintro e w' ⟨ρ,rfl,hrep,hb⟩
 split at hr
 ·obtain rfl:=zx hr
  exact⟨none,0,rfl,Rd.nil _ _ _,hb⟩
 ·rename_i b m
  split at hr
  ·rename_i vs T hbl
   cases hmm:Nat.beq m vs.length with
   |false=>rw[hmm] at hr;cases hr
   |true=>
    rw[hmm] at hr
    obtain⟨h1,h2⟩:=mW (ρ:=ρ) hr
    obtain⟨r1,r2⟩:=hrep b _ hbl
    obtain⟨k1,_⟩:=Zk r1
    refine⟨some ⟨ρ.blk b,0,none⟩,ρ.cap b - 0,?_,?_,hb⟩
    ·show Ending.returned (.slice _ m _)=_
     rw[(beq_iff _ _).1 hmm,h2]
    ·rw[← h1]
     exact fun hx=>by
      obtain⟨ad,e1,_,e3⟩:=k1 hx
      obtain rfl:=zx e1
      exact⟨_,rfl,r2,e3⟩
  ·cases hr
 ·rename_i b m cc
  split at hr
  ·rename_i vs T hbl
   cases hmm:Nat.beq m vs.length with
   |false=>rw[hmm] at hr;cases hr
   |true=>
    rw[hmm] at hr
    obtain⟨h1,h2⟩:=mW (ρ:=ρ) hr
    obtain⟨r1,r2⟩:=hrep b _ hbl
    have r1:w'.heap[ρ.blk b]? =some (.cells (aG ρ vs).toArray T (0,0)):=r1
    refine⟨some ⟨ρ.blk b,0,none⟩,cc,?_,?_,hb⟩
    ·show Ending.returned (.slice _ m _)=_
     rw[(beq_iff _ _).1 hmm,h2]
    ·rw[← h1]
     refine fun _=>⟨_,rfl,r2,fun j u hu=>?_⟩
     rw[y7,Nat.zero_add]
     simp only[World.cell?,r1]
     simpa using hu
  ·cases hr
 ·cases hr
noncomputable abbrev XV (t:List Nat):Option (AV×AW):=aj EN 194 [.str t] ⟨0,[],[],bC⟩
def rq (q:Option (List (List Nat)))(l:List (List Nat)):Bool:=match q with
 |some m=>acz m l
 |none=>false
theorem ag4:rq (rowOf (XV awR)) jr=true:=by kernel_rfl
theorem ag6:rq (rowOf (XV axb)) mH=true:=by kernel_rfl
theorem ag5:rq (rowOf (XV axa)) zB=true:=by kernel_rfl
theorem anB:rq (rowOf (XV nJp)) wJp=true:=by kernel_rfl
theorem Zb {q:Option (List (List Nat))}{l:List (List Nat)}(h:rq q l=true):q=some l:=by
 unfold rq at h
 split at h
 ·rw[D8 h]
 ·cases h
theorem qO {nm:List Nat}(hnm:∀x∈nm,x < 256):∀{ws:List (List Nat)},(∀l∈ws,∀x∈l,x < 256)→((ws.map aa).any fun t=>decide (aa nm=t))=bU nm ws
 |[],_=>rfl
 |x::ws,h=>by
  unfold bU
  rw[List.map_cons,List.any_cons,List.any_cons]
  have:=qO hnm (ws:=ws) fun l hl=>h l (zm _ hl)
  unfold bU at this
  rw[this]
  congr 1
  refine decide_eq_decide.2 ⟨fun e=>?_,fun e=>by rw[e]⟩
  have e2:D7 x nm=true:=by
   rw[← lq,← e]
   exact beq_self_eq_true _
  exact q9 (h x zn) hnm e2
theorem vw {t:List Nat}{ws:List (List Nat)}(h:rq (rowOf (XV t)) ws=true)(hws:∀l∈ws,∀x∈l,x < 256)(hl:ws.length≤100){nm:List Nat}(hm:∀x∈nm,x < 256){w:World}(hG:gJ w):dX w (aa t) nm (bU nm ws):=fun W hW=>by
 have C1:Hid (Calls Tryz.prog 194 #[.string (aa t)] W fun e w'=>∃A c,e= .returned (.slice A ws.length c)∧Rd w' (fun b=>W.heap.size≤b) A (qw (ws.map aa))∧Below W.heap.size W w'):=yS (bD gN mg) (Zb h) ⟨trivial,trivial⟩ W (hG.after hW)
 have C2:=zz (fun (W':World) A c (hr:Rd W' (fun b=>W.heap.size≤b) A (qw (ws.map aa)))=>J3 A (ws.map aa) ws.length c (aa nm) W' _ (by simp) (by omega) hr)
 have HM:=zz (qO hm hws)
 clear hW hG hws hm h hl
 go_enter Tryz.func129,Tryz.ntmps129
 go_wp2_with (first
  |(go_at_call 194;refine C1.out.mono ?_;rintro e w1 ⟨A,c,rfl,hr,hb⟩;have HR:=zz hr;have HB:=zz hb;clear hr hb)
  |(go_at_call 139;refine (C2.out _ _ _ HR.out).mono ?_;rintro e w2 ⟨rfl,rfl⟩))
 go_ret
 exact⟨aQ (by rw[← HM.out,List.any_map]),HB.out⟩
theorem EU {nm:List Nat}(hm:∀x∈nm,x < 256){w:World}(hG:gJ w):Words w nm:=
 ⟨vw ag4 (by decide) (by decide) hm hG,vw ag6 (by decide) (by decide) hm hG,vw ag5 (by decide) (by decide) hm hG,vw anB (by decide) (by decide) hm hG⟩
def ltB (nm:List Nat):Bool:=rH (fun x=>Nat.blt x 256) nm
theorem amF:allM ltB dY=true:=by kernel_rfl
theorem kK {nm:List Nat}(hm:nm∈dY):∀x∈nm,x < 256:=fun _ hx=>aT (dZ (f:=fun x=>Nat.blt x 256) (aV amF hm) hx)
theorem LQ:allM (fun nm=>cond (Nat.ble nm.length 4) (rH (fun x=>cond (Nat.ble 65 x) (Nat.ble x 90) false) nm) false && !(jS nm [])) dY=true:=by kernel_rfl
noncomputable def axi:Bool:=rH (fun k=>rH (fun j=>nq (xD (aj EN 140 [.agg [.int .i64 (.ofNat k),.int .i64 (.ofNat j),.int .i64 (.ofNat 0)]] ⟨0,[],[],bC⟩)) (Ni k j)) (ng k)) [1,2,3,4,5,6,7,8,9,10]
theorem agT:axi=true:=by kernel_rfl
theorem oH {k j:Nat}(h1:1≤k)(h2:k≤10)(hj:j∈ng k)(w:World)(hG:gJ w):Calls Tryz.prog 140 #[.agg #[.int .i64 (k:Int),.int .i64 (j:Int),.int .i64 0]] w fun e w'=>e= .returned (.int .i64 (Ni k j:Nat))∧Below w.heap.size w w':=by
 have hk:k∈[1,2,3,4,5,6,7,8,9,10]:=by simp;omega
 have h3:=dZ (f:=fun k=>rH (fun j=>nq (xD (aj EN 140 [.agg [.int .i64 (.ofNat k),.int .i64 (.ofNat j),.int .i64 (.ofNat 0)]] ⟨0,[],[],bC⟩)) (Ni k j)) (ng k)) agT hk
 have h4:=aiw (dZ (f:=fun j=>nq (xD (aj EN 140 [.agg [.int .i64 (.ofNat k),.int .i64 (.ofNat j),.int .i64 (.ofNat 0)]] ⟨0,[],[],bC⟩)) (Ni k j)) h3 hj)
 exact acX (args:=[.agg [.int .i64 (.ofNat k),.int .i64 (.ofNat j),.int .i64 (.ofNat 0)]]) (bD gN mg) h4 ⟨⟨trivial,trivial,trivial,trivial⟩,trivial⟩ w hG
def Oj:List Nat→List Nat
 |[]=>[]
 |c::l=>cond (Nat.beq c 32) [] (c::Oj l)
def Xl (r:List Nat):List Nat:=Oj (r.drop 9)
def fH (nm:List Nat):List (List Nat)→List (List Nat)
 |[]=>[]
 |r::l=>cond (jS (Xl r) nm) (r::fH nm l) (fH nm l)
noncomputable def eu (pt:List Nat)(rl:List (List Nat))(nm:List Nat):Bool:=rq (rowOf (aj ai 133 [.str pt,.str nm] ⟨0,[],[],bC⟩)) (fH nm rl)
def ZL:List (List Nat):=[[65,68,67],[65,68,68],[65,78,68],[66,73,84],[67,65,76,76],[67,67,70],[67,80],[67,80,68],[67,80,68,82]]
def ZK:List (List Nat):=[[67,80,73],[67,80,73,82],[67,80,76],[68,65,65],[68,69,67],[68,73],[68,74,78,90],[69,73],[69,88]]
def ZJ:List (List Nat):=[[69,88,88],[72,65,76,84],[73,77],[73,78],[73,78,67],[73,78,68],[73,78,68,82],[73,78,73],[73,78,73,82]]
def ZI:List (List Nat):=[[74,80],[74,82],[76,68],[76,68,68],[76,68,68,82],[76,68,73],[76,68,73,82],[78,69,71],[78,79,80]]
def ZH:List (List Nat):=[[79,82],[79,84,68,82],[79,84,73,82],[79,85,84],[79,85,84,68],[79,85,84,73],[80,79,80],[80,85,83,72],[82,69,83]]
def ZG:List (List Nat):=[[82,69,84],[82,69,84,73],[82,69,84,78],[82,76],[82,76,65],[82,76,67],[82,76,67,65],[82,76,68],[82,82]]
def ZF:List (List Nat):=[[82,82,65],[82,82,67],[82,82,67,65],[82,82,68],[82,83,84],[83,66,67],[83,67,70],[83,69,84],[83,76,65]]
def ZE:List (List Nat):=[[83,76,76],[83,82,65],[83,82,76],[83,85,66],[88,79,82]]
theorem agj:acz dY (ZL++ZK++ZJ++ZI++ZH++ZG++ZF++ZE)=true:=by kernel_rfl
end Go.Proofs.YtceaodnohnekkaaGreatDoor.Ex
namespace Go.Proofs.YtceaodnohnekkaaGreatDoor
open Go.RowKit Ex
theorem aeo {s:ByteArray}{l:List ByteArray}{k:Nat}(h:l[k]? =some s):true=l.any fun t=>decide (s=t):=by
 symm
 rw[List.any_eq_true]
 exact⟨s,List.mem_of_getElem? h,decide_eq_true rfl⟩
theorem aep {s:ByteArray}{l:List ByteArray}(h:∀(j:Nat) (t:ByteArray),l[j]? =some t→s≠t):false=l.any fun t=>decide (s=t):=by
 symm
 rw[List.any_eq_false]
 intro t ht
 obtain⟨j,hj⟩:=List.mem_iff_getElem?.1 ht
 have:=h j t hj
 simpa using this
set_option maxHeartbeats 400000 in
theorem afT (A:Option Addr)(l:List ByteArray)(n c:Nat)(s:ByteArray)(w:World)(p:Nat→Prop)(hn:l.length=n)(hm:(n:Int)≤1000)(h:Rd w p A (qw l)):
 Calls Tryz.prog 26 #[.slice A n c,.string s] w fun e w'=>e= .returned (.bool (l.any fun t=>decide (s=t)))∧w=w':=by
 have HR:=zz h
 have HN:=zz hn
 clear h hn
 go_enter Tryz.func26,Tryz.ntmps26
 go_wp2
 go_loop [5] (fun v=>∃k:Nat,v= .int .i64 (k:Int)∧k≤n∧Hid (∀(j:Nat) (t:ByteArray),j < k→l[j]? =some t→s≠t)) (fun v=>n - (intOf v).toNat)
 case atStart=>exact⟨0,rfl,by omega,fun j _ hj=>absurd hj (Nat.not_lt_zero _)⟩
 case round=>
  obtain⟨k,rfl,hk,hr⟩:=hrel
  by_cases hlt:k < n
  ·obtain⟨b',o,t,rfl,hc0,hz⟩:=HR.out.Oy (k:=k) (by rw[HN.out];exact hlt)
   have HZ:=zz hz
   clear hz
   by_cases hf:s=t
   ·subst hf
    have e1:(s.toList == s.toList)=true:=beq_self_eq_true _
    have HI:Hid (true=l.any fun t=>decide (s=t)):=aeo HZ.out
    go_wp2
    all_goals go_ret
    all_goals exact⟨aQ HI.out,rfl⟩
   ·have e1:=Lu (Ne.symm hf)
    have HF:=zz hf
    clear hf
    go_wp2
    go_round
    case rel=>exact⟨k+1,by go_num,by omega,fun j t' hj ht=>by
     by_cases e:j=k
     ·subst e
      rw[HZ.out] at ht
      rw[← Option.some.inj ht];exact HF.out
     ·exact hr.out j t' (by omega) ht⟩
    case measure=>simp[intOf];omega
  ·have HI:Hid (false=l.any fun t=>decide (s=t)):=aep fun j t hj=>hr.out j t (by
    have:=(List.getElem?_eq_some_iff.1 hj).1
    have:=HN.out
    omega) hj
   go_wp2
   all_goals go_ret
   all_goals exact⟨aQ HI.out,rfl⟩
noncomputable def asu:Option (List (List Nat)):=rowOf (aj EN 86 [] ⟨0,[],[],bC⟩)
def iU:List (List Nat):=[[65,68,67],[65,68,68],[65,78,68],[66,73,84],[67,65,76,76],[67,67,70],[67,80],[67,80,68],[67,80,68,82],[67,80,73],[67,80,73,82],[67,80,76],[68,65,65],[68,69,67],[68,73],[68,74,78,90],[69,73],[69,88],[69,88,88],[72,65,76,84],[73,77],[73,78],[73,78,67],[73,78,68],[73,78,68,82],[73,78,73],[73,78,73,82],[74,80],[74,82],[76,68],[76,68,68],[76,68,68,82],[76,68,73],[76,68,73,82],[78,69,71],[78,79,80],[79,82],[79,84,68,82],[79,84,73,82],[79,85,84],[79,85,84,68],[79,85,84,73],[80,79,80],[80,85,83,72],[82,69,83],[82,69,84],[82,69,84,73],[82,69,84,78],[82,76],[82,76,65],[82,76,67],[82,76,67,65],[82,76,68],[82,82],[82,82,65],[82,82,67],[82,82,67,65],[82,82,68],[82,83,84],[83,66,67],[83,67,70],[83,69,84],[83,76,65],[83,76,76],[83,82,65],[83,82,76],[83,85,66],[88,79,82]]
theorem agf:rq asu iU=true:=by kernel_rfl
def aji (a b:List (List Nat)):Bool:=a.all fun x=>lU x b
theorem ZB:(aji dY iU && aji iU dY)=true:=by kernel_rfl
theorem xq {x:List Nat}:∀{l:List (List Nat)},lU x l=true→x∈l
 |[],h=>by cases h
 |y::l,h=>by
  unfold lU at h
  cases hq:jS x y with
  |true=>rw[fA hq];exact zn
  |false=>
   rw[hq] at h
   exact zm _ (xq h)
theorem anb (s:ByteArray):((iU.map aa).any fun t=>decide (s=t))=dW s:=by
 have h:=ZB
 rw[Bool.and_eq_true] at h
 obtain⟨h1,h2⟩:=h
 unfold aji at h1 h2
 rw[List.all_eq_true] at h1 h2
 unfold dW
 rw[Bool.eq_iff_iff,List.any_eq_true,List.any_eq_true]
 constructor
 ·rintro ⟨t,ht,he⟩
  obtain⟨l,hl,rfl⟩:=List.mem_map.1 ht
  exact⟨l,xq (h2 l hl),decide_eq_true (of_decide_eq_true he).symm⟩
 ·rintro ⟨l,hl,he⟩
  exact⟨aa l,List.mem_map.2 ⟨l,xq (h1 l hl),rfl⟩,decide_eq_true (of_decide_eq_true he).symm⟩
set_option maxHeartbeats 400000 in
theorem LG (s:ByteArray)(w:World)(hG:gJ w):
 Calls Tryz.prog 40 #[.string s] w fun e w'=>e= .returned (.bool (dW s))∧Below w.heap.size w w':=by
 have C1:Hid (Calls Tryz.prog 86 #[] w fun e w'=>∃A c,e= .returned (.slice A iU.length c)∧Rd w' (fun b=>w.heap.size≤b) A (qw (iU.map aa))∧Below w.heap.size w w'):=yS (args:=[]) (bD gN mg) (show asu=some iU from Zb agf) trivial w hG
 have HQ:=zz (anb s)
 have hl:Hid ((iU.map aa).length=iU.length):=List.length_map ..
 have hm:iU.length≤1000:=by decide
 clear hG
 generalize iU.length=n at C1 hl hm
 generalize iU.map aa=l at C1 HQ hl
 have hni:(n:Int)≤1000:=by omega
 clear hm
 go_enter Tryz.func40,Tryz.ntmps40
 go_wp2_with (go_at_call 86;refine C1.out.mono ?_;rintro e w1 ⟨A,c,rfl,hrd,hb⟩;have HR:=zz hrd;have HB:=zz hb;clear hb hrd)
 go_loop [4] (fun v=>∃k:Nat,v= .int .i64 (k:Int)∧k≤n∧Hid (∀(j:Nat) (t:ByteArray),j < k→l[j]? =some t→s≠t)) (fun v=>n - (intOf v).toNat)
 case atStart=>exact⟨0,rfl,by omega,fun j _ hj=>absurd hj (Nat.not_lt_zero _)⟩
 case round=>
  obtain⟨k,rfl,hk,hr⟩:=hrel
  by_cases hlt:k < n
  ·obtain⟨b',o,t,rfl,hc0,hz⟩:=HR.out.Oy (k:=k) (by rw[hl.out];exact hlt)
   have HZ:=zz hz
   clear hz
   by_cases hf:s=t
   ·subst hf
    have e1:(s.toList == s.toList)=true:=beq_self_eq_true _
    have HI:Hid (true=dW s):=by
     show _=_
     rw[← HQ.out]
     exact aeo HZ.out
    go_wp2
    all_goals go_ret
    all_goals exact⟨aQ HI.out,HB.out⟩
   ·have e1:=Lu (Ne.symm hf)
    have HF:=zz hf
    clear hf
    go_wp2
    go_round
    case rel=>exact⟨k+1,by go_num,by omega,fun j t' hj ht=>by
     by_cases e:j=k
     ·subst e
      rw[HZ.out] at ht
      rw[← Option.some.inj ht];exact HF.out
     ·exact hr.out j t' (by omega) ht⟩
    case measure=>simp[intOf];omega
  ·have HI:Hid (false=dW s):=by
    show _=_
    rw[← HQ.out]
    exact aep fun j t hj=>hr.out j t (by
     have:=(List.getElem?_eq_some_iff.1 hj).1
     have:=hl.out
     omega) hj
   go_wp2
   all_goals go_ret
   all_goals exact⟨aQ HI.out,HB.out⟩
theorem Zg {ws:List (List Nat)}(hws:∀l∈ws,∀x∈l,x < 256)(hl:ws.length≤100){nm:List Nat}(hm:∀x∈nm,x < 256)(A:Option Addr)(c:Nat)(w:World)(p:Nat→Prop)(h:Rd w p A (qw (ws.map aa))):
 Calls Tryz.prog 26 #[.slice A ws.length c,.string (aa nm)] w fun e w'=>e= .returned (.bool (bU nm ws))∧Below w.heap.size w w':=by
 refine (afT A (ws.map aa) ws.length c (aa nm) w p (by simp) (by omega) h).mono ?_
 rintro e w' ⟨rfl,rfl⟩
 rw[qO hm hws]
 exact⟨rfl,zo _ _⟩
abbrev aue (nm:List Nat)(ws:List (List Nat))(b:Bool):Prop:=∀(W:World) (A:Option Addr),Rd W (fun _=>True) A (qw (ws.map aa))→Calls Tryz.prog 26 #[.slice A ws.length ws.length,.string (aa nm)] W fun e w'=>e= .returned (.bool b)∧Below W.heap.size W w'
theorem wK {ws:List (List Nat)}(hws:∀l∈ws,∀x∈l,x < 256)(hl:ws.length≤100){nm:List Nat}(hm:∀x∈nm,x < 256):aue nm ws (bU nm ws):=fun W A h=>Zg hws hl hm A _ W _ h
theorem afk:∀l∈zB,∀x∈l,x < 256:=by decide
theorem afj:∀l∈jr,∀x∈l,x < 256:=by decide
theorem afl:∀l∈mH,∀x∈l,x < 256:=by decide
theorem afq:qw (zB.map aa)=[.string ⟨#[66,73,84]⟩,.string ⟨#[82,69,83]⟩,.string ⟨#[83,69,84]⟩,.string ⟨#[73,77]⟩,.string ⟨#[82,83,84]⟩,.string ⟨#[79,85,84]⟩]:=by kernel_rfl
theorem afo:qw (jr.map aa)=[.string ⟨#[83,85,66]⟩,.string ⟨#[65,78,68]⟩,.string ⟨#[88,79,82]⟩,.string ⟨#[79,82]⟩,.string ⟨#[67,80]⟩]:=by kernel_rfl
theorem afr:qw (mH.map aa)=[.string ⟨#[65,68,68]⟩,.string ⟨#[65,68,67]⟩,.string ⟨#[83,66,67]⟩]:=by kernel_rfl
theorem amy (w:World)(o:Obj)(cs:Array Value)(t:TypeId):Rd ((w.alloc o).alloc (.cells cs t)) (fun _=>True) (some ⟨w.heap.size+1,0,none⟩) cs.toList:=by
 have:=Rd.new (p:=fun _=>True) (w.alloc o) cs t trivial
 rwa [World.size_alloc] at this
theorem pJ (w:World)(o:Obj)(T:TypeId):Rd ((w.alloc o).alloc (.cells #[.string ⟨#[66,73,84]⟩,.string ⟨#[82,69,83]⟩,.string ⟨#[83,69,84]⟩,.string ⟨#[73,77]⟩,.string ⟨#[82,83,84]⟩,.string ⟨#[79,85,84]⟩] T)) (fun _=>True) (some ⟨w.heap.size+1,0,none⟩) [.string ⟨#[66,73,84]⟩,.string ⟨#[82,69,83]⟩,.string ⟨#[83,69,84]⟩,.string ⟨#[73,77]⟩,.string ⟨#[82,83,84]⟩,.string ⟨#[79,85,84]⟩]:=amy w o #[.string ⟨#[66,73,84]⟩,.string ⟨#[82,69,83]⟩,.string ⟨#[83,69,84]⟩,.string ⟨#[73,77]⟩,.string ⟨#[82,83,84]⟩,.string ⟨#[79,85,84]⟩] T
set_option maxHeartbeats 1000000 in
theorem Lx (nm:List Nat)(hnm:∀x∈nm,x < 256)(A:Option Addr)(l:List ay)(n c:Nat)(w:World)(p:Nat→Prop)(hn:n=l.length)(hm:l.length≤3)(h:Rd w p A (bE l)):
 Calls Tryz.prog 27 #[.agg #[.string (aa nm),.slice A n c]] w fun e w'=>e= .returned (.int .i64 (dx nm l:Nat))∧Below w.heap.size w w':=by
 have C:Hid (∀(W:World) (A:Option Addr),Rd W (fun _=>True) A [.string ⟨#[66,73,84]⟩,.string ⟨#[82,69,83]⟩,.string ⟨#[83,69,84]⟩,.string ⟨#[73,77]⟩,.string ⟨#[82,83,84]⟩,.string ⟨#[79,85,84]⟩]→Calls Tryz.prog 26 #[.slice A 6 6,.string (aa nm)] W fun e w'=>e= .returned (.bool (bU nm zB))∧Below W.heap.size W w'):=fun W A h=>wK afk (by decide) hnm W A (by rw[afq];exact h)
 have H0:Hid (Bk (w.alloc (.cells #[.string (aa nm),.slice A n c] 24)) w.heap.size 24 [.string (aa nm),.slice A n c]∧Below w.heap.size w (w.alloc (.cells #[.string (aa nm),.slice A n c] 24))):=⟨Bk.new w 24 [.string (aa nm),.slice A n c],(zo _ _).alloc (zu _) _⟩
 have e1:((aa nm).toList == [74,80])=decide (nm=[74,80]):=yn (m:=[74,80]) hnm (by decide)
 have e2:((aa nm).toList == [67,65,76,76])=decide (nm=[67,65,76,76]):=yn (m:=[67,65,76,76]) hnm (by decide)
 have e3:((aa nm).toList == [76,68])=decide (nm=[76,68]):=yn (m:=[76,68]) hnm (by decide)
 have HW:Hid (dx nm l=if bU nm zB then 0 else if (decide (nm=[74,80]) || decide (nm=[67,65,76,76])) || (decide (nm=[76,68]) && uC l) then 2 else 1):=by
  unfold dx bU wJp Hid
  simp only[List.any_cons,List.any_nil,Bool.or_false,eq_comm]
 have HR:=zz h
 have HN:=zz hn
 have hni:(n:Int)≤3:=by omega
 clear h hn hm hnm
 generalize dx nm l=v at HW ⊢
 have x0:=H0.out.1.cell 0 rfl
 cases hb:bU nm zB
 case true=>
  rw[hb] at C HW
  have HX:Hid ((0:Int)=(v:Nat)):=by
   show _=_
   rw[HW.out];rfl
  clear HW hb e1 e2 e3
  go_enter Tryz.func27,Tryz.ntmps27
  go_wp2_with (go_at_call 26;refine (C.out _ _ (pJ w (.cells #[.string (aa nm),.slice A n c] 24) _)).mono ?_;rintro e w1 ⟨rfl,hb⟩;have HB1:=zz ((H0.out.2.alloc H0.out.2.size _).trans (hb.mono (H0.out.2.alloc H0.out.2.size _).size));have y0:=((H0.out.1.alloc _).after hb).cell 0 rfl;have y1:=((H0.out.1.alloc _).after hb).cell 1 rfl;clear hb)
  go_ret
  exact⟨bH HX.out,HB1.out⟩
 rw[hb] at C HW
 simp only[Bool.false_eq_true,if_false] at HW
 clear hb
 by_cases h1:nm=[74,80]
 ·have HX:Hid ((2:Int)=(v:Nat)):=by
   show _=_
   rw[HW.out,decide_eq_true h1];rfl
  rw[decide_eq_true h1] at e1
  clear HW h1 e2 e3
  go_enter Tryz.func27,Tryz.ntmps27
  go_wp2_with (go_at_call 26;refine (C.out _ _ (pJ w (.cells #[.string (aa nm),.slice A n c] 24) _)).mono ?_;rintro e w1 ⟨rfl,hb⟩;have HB1:=zz ((H0.out.2.alloc H0.out.2.size _).trans (hb.mono (H0.out.2.alloc H0.out.2.size _).size));have y0:=((H0.out.1.alloc _).after hb).cell 0 rfl;have y1:=((H0.out.1.alloc _).after hb).cell 1 rfl;clear hb)
  go_ret
  exact⟨bH HX.out,HB1.out⟩
 rw[decide_eq_false h1] at e1 HW
 by_cases h2:nm=[67,65,76,76]
 ·have HX:Hid ((2:Int)=(v:Nat)):=by
   show _=_
   rw[HW.out,decide_eq_true h2];rfl
  rw[decide_eq_true h2] at e2
  clear HW h1 h2 e3
  go_enter Tryz.func27,Tryz.ntmps27
  go_wp2_with (go_at_call 26;refine (C.out _ _ (pJ w (.cells #[.string (aa nm),.slice A n c] 24) _)).mono ?_;rintro e w1 ⟨rfl,hb⟩;have HB1:=zz ((H0.out.2.alloc H0.out.2.size _).trans (hb.mono (H0.out.2.alloc H0.out.2.size _).size));have y0:=((H0.out.1.alloc _).after hb).cell 0 rfl;have y1:=((H0.out.1.alloc _).after hb).cell 1 rfl;clear hb)
  go_ret
  exact⟨bH HX.out,HB1.out⟩
 rw[decide_eq_false h2] at e2 HW
 by_cases h3:nm=[76,68]
 case neg=>
  have HX:Hid ((1:Int)=(v:Nat)):=by
   show _=_
   rw[HW.out,decide_eq_false h3];rfl
  rw[decide_eq_false h3] at e3
  clear HW h1 h2 h3
  go_enter Tryz.func27,Tryz.ntmps27
  go_wp2_with (go_at_call 26;refine (C.out _ _ (pJ w (.cells #[.string (aa nm),.slice A n c] 24) _)).mono ?_;rintro e w1 ⟨rfl,hb⟩;have HB1:=zz ((H0.out.2.alloc H0.out.2.size _).trans (hb.mono (H0.out.2.alloc H0.out.2.size _).size));have y0:=((H0.out.1.alloc _).after hb).cell 0 rfl;have y1:=((H0.out.1.alloc _).after hb).cell 1 rfl;clear hb)
  go_ret
  exact⟨bH HX.out,HB1.out⟩
 rw[decide_eq_true h3] at e3 HW
 clear h1 h2 h3
 cases l with
 |nil=>
  obtain rfl:n=0:=HN.out
  have HX:Hid ((1:Int)=(v:Nat)):=by
   show _=_
   rw[HW.out];rfl
  clear HW
  go_enter Tryz.func27,Tryz.ntmps27
  go_wp2_with (go_at_call 26;refine (C.out _ _ (pJ w (.cells #[.string (aa nm),.slice A 0 c] 24) _)).mono ?_;rintro e w1 ⟨rfl,hb⟩;have HB1:=zz ((H0.out.2.alloc H0.out.2.size _).trans (hb.mono (H0.out.2.alloc H0.out.2.size _).size));have y0:=((H0.out.1.alloc _).after hb).cell 0 rfl;have y1:=((H0.out.1.alloc _).after hb).cell 1 rfl;clear hb)
  go_ret
  exact⟨bH HX.out,HB1.out⟩
 |cons o l=>
  obtain⟨q,off,rfl,_,c0,_,_⟩:=HR.out.o3 (k:=0) rfl
  simp only[Nat.zero_mul,Nat.add_zero] at c0
  have hpos:0 < n:=by rw[HN.out];simp
  have HX1:Hid ((o.1 == 3)=true→(2:Int)=(v:Nat)):=fun e=>by
   have e':=beq_iff_eq.1 e
   simp[HW.out,uC,e']
  have HX2:Hid ((o.1 == 3)=false→(1:Int)=(v:Nat)):=fun e=>by
   have e':=beq_eq_false_iff_ne.1 e
   simp[HW.out,uC,e']
  clear HW HR HN
  generalize o.1=k0 at c0 HX1 HX2
  cases hb3:(k0 == 3)
  ·have HX:=zz (HX2.out hb3)
   clear HX1 HX2
   go_enter Tryz.func27,Tryz.ntmps27
   go_wp2_with (go_at_call 26;refine (C.out _ _ (pJ w (.cells #[.string (aa nm),.slice (some ⟨q,off,none⟩) n c] 24) _)).mono ?_;rintro e w1 ⟨rfl,hb⟩;have HB1:=zz ((H0.out.2.alloc H0.out.2.size _).trans (hb.mono (H0.out.2.alloc H0.out.2.size _).size));have y0:=((H0.out.1.alloc _).after hb).cell 0 rfl;have y1:=((H0.out.1.alloc _).after hb).cell 1 rfl;have y2:=eB HB1.out c0;clear hb)
   go_ret
   exact⟨bH HX.out,HB1.out⟩
  ·have HX:=zz (HX1.out hb3)
   clear HX1 HX2
   go_enter Tryz.func27,Tryz.ntmps27
   go_wp2_with (go_at_call 26;refine (C.out _ _ (pJ w (.cells #[.string (aa nm),.slice (some ⟨q,off,none⟩) n c] 24) _)).mono ?_;rintro e w1 ⟨rfl,hb⟩;have HB1:=zz ((H0.out.2.alloc H0.out.2.size _).trans (hb.mono (H0.out.2.alloc H0.out.2.size _).size));have y0:=((H0.out.1.alloc _).after hb).cell 0 rfl;have y1:=((H0.out.1.alloc _).after hb).cell 1 rfl;have y2:=eB HB1.out c0;clear hb)
   go_ret
   exact⟨bH HX.out,HB1.out⟩
def jH (o:ay):Nat:=Ni o.1.toNat o.2.1.toNat
def bf:List ay→List Nat
 |[]=>[0,1,2]
 |o::l=>if jH o=5 then [3,5] else if jH o=6 then [4,6] else bf l
def nU (o:ay):Prop:=∃k j:Nat,o.1=(k:Int)∧o.2.1=(j:Int)∧1≤k∧k≤10∧j∈ng k
theorem nu (l:List ay):bf l=[3,5]∨bf l=[4,6]∨bf l=[0,1,2]:=by
 induction l with
 |nil=>exact .inr (.inr rfl)
 |cons o l ih=>
  unfold bf
  split
  ·exact .inl rfl
  ·split
   ·exact .inr (.inl rfl)
   ·exact ih
theorem sG (l:List ay):∀p∈bf l,p≤6:=by
 rcases nu l with h | h | h <;> rw[h] <;> simp
theorem wV (l:List ay):(bf l).length≤7:=by
 rcases nu l with h | h | h <;> rw[h] <;> simp
theorem Ux (l:List ay):bf l≠[]:=by
 rcases nu l with h | h | h <;> rw[h] <;> simp
abbrev Jj (l:List Nat):List Value:=l.map fun (x:Nat)=>Value.int .i64 (x:Int)
theorem sw {L:List ay}{A:Option Addr}{c n:Nat}{l:List Nat}{w w':World}(h:bf L=l)(hn:n=l.length)(hr:Rd w' (fun _=>True) A (Jj l))(hb:Below w.heap.size w w'):∃A' c',Ending.returned (.slice A n c)= .returned (.slice A' (bf L).length c')∧Rd w' (fun _=>True) A' (Jj (bf L))∧Below w.heap.size w w':=⟨A,c,by rw[h,hn],by rw[h];exact hr,hb⟩
set_option maxHeartbeats 4000000 in
theorem Uw (s:ByteArray)(A:Option Addr)(l:List ay)(n c:Nat)(w:World)(p:Nat→Prop)(hn:n=l.length)(hm:l.length≤1000)(hv:∀o∈l,nU o)(hG:gJ w)(h:Rd w p A (bE l)):
 Calls Tryz.prog 74 #[.agg #[.string s,.slice A n c]] w fun e w'=>∃A' c',e= .returned (.slice A' (bf l).length c')∧Rd w' (fun _=>True) A' (Jj (bf l))∧Below w.heap.size w w':=by
 have C:Hid (∀W (o:ay),o∈l→Below w.heap.size w W→Calls Tryz.prog 140 #[.agg #[.int .i64 o.1,.int .i64 o.2.1,.int .i64 0]] W fun e w'=>e= .returned (.int .i64 (jH o:Nat))∧Below W.heap.size W w'):=fun W o ho hb=>by
  obtain⟨k,j,h1,h2,h3,h4,h5⟩:=hv o ho
  have:=Ex.oH h3 h4 h5 W (hG.after hb)
  unfold jH
  rw[h1,h2]
  exact this
 have H0:Hid (Bk (w.alloc (.cells #[.string s,.slice A n c] 24)) w.heap.size 24 [.string s,.slice A n c]∧Below w.heap.size w (w.alloc (.cells #[.string s,.slice A n c] 24))):=⟨Bk.new w 24 [.string s,.slice A n c],(zo _ _).alloc (zu _) _⟩
 have HR:=zz h
 have HN:=zz hn
 have hni:(n:Int)≤1000:=by omega
 clear h hn hm hv hG
 go_enter Tryz.func74,Tryz.ntmps74
 go_wp2
 generalize w.alloc (.cells #[.string s,.slice A n c] 24)=W0 at H0 ⊢
 have g0:=H0.out.1.cell 1 rfl
 go_wp2
 go_loopw [8] (fun v wr=>∃k:Nat,v= .int .i64 (k:Int)∧k≤n∧Hid (bf (l.drop k)=bf l)∧Hid (Below w.heap.size w wr)) (fun v _=>n - (intOf v).toNat)
 case atStart=>exact⟨0,rfl,Nat.zero_le _,rfl,H0.out.2⟩
 case round=>
  obtain⟨k,rfl,hk,hr,hw⟩:=hrel
  by_cases hlt:k < n
  ·have hk1:k < l.length:=by rw[← HN.out];exact hlt
   obtain⟨o,ho⟩:∃o,l[k]? =some o:=⟨_,List.getElem?_eq_getElem hk1⟩
   obtain⟨q,off,rfl,_,c0,c1,c2⟩:=(HR.out.after hw.out).o3 ho
   have hd:l.drop k=o::l.drop (k+1):=by
    rw[List.drop_eq_getElem_cons hk1]
    rw[List.getElem?_eq_getElem hk1] at ho
    rw[Option.some.inj ho]
   have HX:Hid (bf l=if jH o=5 then [3,5] else if jH o=6 then [4,6] else bf (l.drop (k+1))):=by
    have:=hr.out
    rw[hd] at this
    show _=_
    rw[← this]
    rfl
   have HA:Hid (Below w.heap.size w (wr.alloc (.cells #[.int .i64 o.1,.int .i64 o.2.1,.int .i64 o.2.2] 65))):=hw.out.alloc hw.out.size _
   have CO:=zz (C.out (wr.alloc (.cells #[.int .i64 o.1,.int .i64 o.2.1,.int .i64 o.2.2] 65)) o (List.mem_of_getElem? ho) HA.out)
   clear hd ho C
   generalize jH o=t at CO HX
   generalize o.1=k0 at c0 c1 c2 HA CO
   generalize o.2.1=r0 at c0 c1 c2 HA CO
   generalize o.2.2=n0 at c0 c1 c2 HA CO
   by_cases h5:t=5
   ·subst h5
    have HZ:Hid (bf l=[3,5]):=by rw[Hid,HX.out];rfl
    clear HX
    go_wp2_with (go_at_call 140;refine CO.out.mono ?_;rintro e w2 ⟨rfl,hb⟩;have HB:=zz (HA.out.trans (hb.mono HA.out.size));clear hb)
    go_ret
    exact sw HZ.out rfl (Rd.new w2 #[.int .i64 3,.int .i64 5] 3 trivial) (HB.out.alloc HB.out.size _)
   ·have e5:((t:Int) == 5)=false:=by rw[beq_eq_false_iff_ne];omega
    by_cases h6:t=6
    ·subst h6
     have HZ:Hid (bf l=[4,6]):=by rw[Hid,HX.out];rfl
     clear HX h5
     go_wp2_with (go_at_call 140;refine CO.out.mono ?_;rintro e w2 ⟨rfl,hb⟩;have HB:=zz (HA.out.trans (hb.mono HA.out.size));clear hb)
     go_ret
     exact sw HZ.out rfl (Rd.new w2 #[.int .i64 4,.int .i64 6] 3 trivial) (HB.out.alloc HB.out.size _)
    ·have e6:((t:Int) == 6)=false:=by rw[beq_eq_false_iff_ne];omega
     have HZ:Hid (bf (l.drop (k+1))=bf l):=by rw[Hid,HX.out,if_neg h5,if_neg h6]
     clear HX h5 h6
     go_wp2_with (go_at_call 140;refine CO.out.mono ?_;rintro e w2 ⟨rfl,hb⟩;have HB:=zz (HA.out.trans (hb.mono HA.out.size));clear hb)
     go_roundw
     case rel=>exact⟨k+1,by go_num,by omega,HZ.out,HB.out⟩
     case measure=>simp[intOf];omega
  ·have HZ:Hid (bf l=[0,1,2]):=by
    have:=hr.out
    rw[List.drop_eq_nil_of_le (by have:=HN.out;omega)] at this
    exact this.symm
   go_wp2
   go_ret
   exact sw HZ.out rfl (Rd.new wr #[.int .i64 0,.int .i64 1,.int .i64 2] 3 trivial) (hw.out.alloc hw.out.size _)
theorem SG {o:ay}(h:bz o=true):nU o:=by
 obtain⟨k0,r,n⟩:=o
 have hk:∃k:Nat,k0=(k:Int)∧1≤k∧k≤10:=by
  by_cases hb:1≤k0∧k0≤10
  ·exact⟨k0.toNat,by omega,by omega,by omega⟩
  ·exfalso
   have:uB k0=none:=by
    unfold uB
    split <;> first | rfl | (exfalso;revert hb;decide)
   unfold bz at h
   simp only[this] at h
   cases h
 obtain⟨k,rfl,h1,h2⟩:=hk
 have hq:=Bg h1 h2 r n
 rw[h] at hq
 unfold okC at hq
 cases hm:M5 (qz r) (ng k) with
 |false=>rw[hm] at hq;cases hq
 |true=>
  have hmem:=xu.1 hm
  have hlt:∀x∈ng k,x < 9:=by
   have hk:k=1∨k=2∨k=3∨k=4∨k=5∨k=6∨k=7∨k=8∨k=9∨k=10:=by omega
   rcases hk with rfl | rfl | rfl | rfl | rfl | rfl | rfl | rfl | rfl | rfl <;> decide
  have h9:=hlt _ hmem
  refine⟨k,qz r,rfl,?_,h1,h2,hmem⟩
  show r=_
  unfold qz at h9 ⊢
  split at h9
  ·omega
  ·split at h9
   ·omega
   ·rename_i a b
    rw[if_neg a,if_neg b]
    omega
theorem UE (w:Nat)(o:ay):(kv w o).1=o.1∧(kv w o).2.1=o.2.1:=by
 unfold kv
 simp only[]
 split <;> exact⟨rfl,rfl⟩
theorem yQ {nm:List Nat}{l:List ay}(h:∀o∈l,bz o=true):∀o∈aK nm l,nU o:=by
 intro o ho
 unfold aK at ho
 obtain⟨a,ha,rfl⟩:=List.mem_map.1 ho
 have hb:nU a:=by
  rcases Dy (M3 ha) with h1 | rfl
  ·exact SG (h a h1)
  ·exact⟨1,7,rfl,rfl,by decide,by decide,by decide⟩
 obtain⟨k,j,h1,h2,h3⟩:=hb
 obtain⟨e1,e2⟩:=UE (dx nm (iW nm (fC nm l))) a
 exact⟨k,j,e1.trans h1,e2.trans h2,h3⟩
theorem nK {s:ByteArray}{l:List ay}(h:eF s l=0):dW s=true∧l.length≤3∧∀o∈l,bz o=true:=by
 unfold eF at h
 split at h
 ·cases h
 ·split at h
  ·cases h
  ·split at h
   ·cases h
   ·rename_i h1 h2 h3
    refine⟨by cases hk:dW s <;> simp_all,by omega,?_⟩
    have h4:l.all bz=true:=by cases hk:l.all bz <;> simp_all
    exact fun o ho=>List.all_eq_true.1 h4 o ho
set_option maxRecDepth 100000 in
set_option maxHeartbeats 2000000 in
theorem wS (s:ByteArray)(A:Option Addr)(l:List ay)(n c:Nat)(w:World)(p:Nat→Prop)(hG:gJ w)(hn:l.length=n)(hm:(n:Int)≤1000)(h64:∀o∈l,mQ o)(h:Rd w p A (bE l)):
 Calls Tryz.prog 18 #[.agg #[.string s,.slice A n c]] w fun e w'=>e= .returned (.int .i64 (eF s l:Nat))∧Below w.heap.size w w':=by
 have C1:Hid (∀W,Below w.heap.size w W→Calls Tryz.prog 40 #[.string s] W fun e w'=>e= .returned (.bool (dW s))∧Below W.heap.size W w'):=fun W hb=>LG s W (hG.after hb)
 have C2:Hid (∀W (o:ay),o∈l→Below w.heap.size w W→Calls Tryz.prog 41 #[.agg #[.int .i64 o.1,.int .i64 o.2.1,.int .i64 o.2.2]] W fun e w'=>e= .returned (.bool (bz o))∧Below W.heap.size W w'):=fun W o ho hb=>afm o (h64 o ho) W (hG.after hb)
 have H0:Hid (Bk (w.alloc (.cells #[.string s,.slice A n c] 24)) w.heap.size 24 [.string s,.slice A n c]∧Below w.heap.size w (w.alloc (.cells #[.string s,.slice A n c] 24))):=⟨Bk.new w 24 [.string s,.slice A n c],(zo _ _).alloc (zu _) _⟩
 have HP:Hid (dW s=false∧(12:Int)=(eF s l:Nat)∨dW s=true∧(decide (3 < n)=true∧(11:Int)=(eF s l:Nat)∨decide (3 < n)=false∧eF s l=(if l.all bz=false then 2 else 0))):=by
  show _∨_
  unfold eF
  cases hk:dW s
  ·exact .inl ⟨rfl,rfl⟩
  ·refine .inr ⟨rfl,?_⟩
   rw[hn]
   by_cases h3:3 < n
   ·exact .inl ⟨decide_eq_true h3,by simp[h3]⟩
   ·exact .inr ⟨decide_eq_false h3,by simp[h3]⟩
 have HR:=zz h
 have HN:=zz hn
 clear h hn h64 hG
 generalize dW s=kb at C1 HP
 rcases HP.out with⟨rfl,hv⟩ | ⟨rfl,⟨h3,hv⟩ | ⟨h3,hv⟩⟩ <;> clear HP
 ·have HV:=zz hv
  clear hv
  go_enter Tryz.func18,Tryz.ntmps18
  go_wp2_with (go_at_call 40;refine (C1.out _ H0.out.2).mono ?_;rintro e w1 ⟨rfl,hb⟩;have HB1:=zz (H0.out.2.trans (hb.mono H0.out.2.size));clear hb)
  go_ret
  exact⟨bH HV.out,HB1.out⟩
 ·have HV:=zz hv
  have h3:3 < n:=of_decide_eq_true h3
  have h3':(3:Int) < n:=by omega
  clear hv
  go_enter Tryz.func18,Tryz.ntmps18
  go_wp2_with (go_at_call 40;refine (C1.out _ H0.out.2).mono ?_;rintro e w1 ⟨rfl,hb⟩;have HB1:=zz (H0.out.2.trans (hb.mono H0.out.2.size));have y1:=(H0.out.1.after hb).cell 1 rfl;clear hb)
  go_ret
  exact⟨bH HV.out,HB1.out⟩
 ·have HV:=zz hv
  have h3:¬(3 < n):=of_decide_eq_false h3
  have h3':¬((3:Int) < n):=by omega
  clear hv
  go_enter Tryz.func18,Tryz.ntmps18
  go_wp2_with (go_at_call 40;refine (C1.out _ H0.out.2).mono ?_;rintro e w1 ⟨rfl,hb⟩;have HB1:=zz (zy (H0.out.1.after hb) (H0.out.2.trans (hb.mono H0.out.2.size)));have y1:=(H0.out.1.after hb).cell 1 rfl;clear hb)
  clear y1
  go_loopw [3] (fun v wr=>∃k:Nat,v= .int .i64 (k:Int)∧k≤n∧Hid (∀(j:Nat) (o:ay),j < k→l[j]? =some o→bz o=true)∧Hid (Bk wr w.heap.size 24 [.string s,.slice A n c]∧Below w.heap.size w wr)) (fun v _=>n - (intOf v).toNat)
  case atStart=>exact⟨0,rfl,Nat.zero_le _,fun j _ hj=>absurd hj (Nat.not_lt_zero _),HB1.out⟩
  case round=>
   obtain⟨k,rfl,hk,hr,hw⟩:=hrel
   have g1:=hw.out.1.cell 1 rfl
   by_cases hlt:k < n
   ·have hk1:k < l.length:=by rw[HN.out];exact hlt
    obtain⟨o,ho⟩:∃o,l[k]? =some o:=⟨_,List.getElem?_eq_getElem hk1⟩
    obtain⟨q,off,rfl,_,c0,c1,c2⟩:=(HR.out.after hw.out.2).o3 ho
    have C:=zz (C2.out wr o (List.mem_of_getElem? ho) hw.out.2)
    have HY:Hid (bz o=false→(2:Int)=(eF s l:Nat)):=fun e=>by
     have h1:l.all bz=false:=by
      rw[List.all_eq_false]
      exact⟨o,List.mem_of_getElem? ho,by rw[e];decide⟩
     rw[HV.out,h1];rfl
    have HZ:Hid (bz o=true→∀(j:Nat) (t:ay),j < k+1→l[j]? =some t→bz t=true):=fun e j t hj ht=>by
     by_cases hjk:j=k
     ·subst hjk
      rw[ho] at ht
      rw[← Option.some.inj ht];exact e
     ·exact hr.out j t (by omega) ht
    clear ho
    generalize bz o=vb at C HY HZ
    cases vb
    ·have HX:=zz (HY.out rfl)
     clear HY HZ
     go_wp2_with (go_at_call 41;refine C.out.mono ?_;rintro e w2 ⟨rfl,hb⟩;have HB2:=zz (zy (hw.out.1.after hb) (hw.out.2.trans (hb.mono hw.out.2.size)));clear hb)
     go_ret
     exact⟨bH HX.out,HB2.out.2⟩
    ·have HX:=zz (HZ.out rfl)
     clear HY HZ
     go_wp2_with (go_at_call 41;refine C.out.mono ?_;rintro e w2 ⟨rfl,hb⟩;have HB2:=zz (zy (hw.out.1.after hb) (hw.out.2.trans (hb.mono hw.out.2.size)));clear hb)
     go_roundw
     case rel=>exact⟨k+1,by go_num,by omega,HX.out,HB2.out⟩
     case measure=>simp[intOf];omega
   ·have HX:Hid ((0:Int)=(eF s l:Nat)):=by
     have h1:l.all bz=true:=by
      rw[List.all_eq_true]
      intro t ht
      obtain⟨j,hj⟩:=List.mem_iff_getElem?.1 ht
      exact hr.out j t (by
       have:=(List.getElem?_eq_some_iff.1 hj).1
       have:=HN.out
       omega) hj
     show _=_
     rw[HV.out,h1];rfl
    go_wp2
    go_ret
    exact⟨bH HX.out,hw.out.2⟩
end Go.Proofs.YtceaodnohnekkaaGreatDoor
