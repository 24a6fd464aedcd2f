/- Parts of the proof of TopInstructions. -/
import Derived.Test.YtceaodnohnekkaaGreatDoorMK3
import Derived.Test.YtceaodnohnekkaaGreatDoorMQa
namespace Go.Proofs.YtceaodnohnekkaaGreatDoor.Ex
open Go.RowKit
def dY:List (List Nat):=(match OA with
 |[(_,.map es _)]=>es.map fun x=>match x.1 with
  | .str l=>l
  |_=>[]
 |_=>[])
def dW (s:ByteArray):Bool:=dY.any fun l=>decide (aa l=s)
theorem abt {w:World}{r clock:Nat}{es:Array MapEntry}(hh:w.heap[r]? =some (.map es clock))(he:∀e∈es.toList,∃t,e.key= .string t∧e.val= .bool true)(s:ByteArray)(b:Bool)(hb:b=true↔∃e∈es.toList,e.key= .string s):
 (Instr.lookup 129 (.map (some r)) (.string s) false).run Tryz.prog w= .ok (.bool b) w:=by
 have hu:Tryz.prog.underlying 129=some (.map 9 4):=by kernel_rfl
 have hus:Tryz.prog.underlying 9=some .string:=by kernel_rfl
 have hz:(zeroValue 4).run Tryz.prog w= .ok (.bool false) w:=by kernel_rfl
 have hk:Go.MapKept.IsKey .string (.string s):=trivial
 have hck:∀e,(Instr.checkKey e 10000 9 (.string s)).run Tryz.prog w= .ok () w:=fun e=>Go.MapKept.run_checkKey hus hk e 9999
 have hkeys:∀x∈es.toList,Go.MapKept.IsKey .string x.key:=fun x hx=>by
  obtain⟨t,ht,_⟩:=he x hx
  rw[ht]
  trivial
 rcases Go.MapKept.findNow_spec hk es.toList 0 hkeys with⟨h1,h2⟩ | ⟨j,e,h1,h2,h3⟩
 ·have hf:=Go.MapKept.run_findKey (w:=w) hus h1
  have:b=false:=by
   cases b
   ·rfl
   ·obtain⟨x,hx,hxk⟩:=hb.1 rfl
    exact (h2 x hx hxk).elim
  subst this
  simp only[Instr.lookup,Sem.run_bind,run_underlying hu,Result.andThen_ok,Go.MapKept.run_getObj_map hh,Sem.run_pure,hck,hf,hz]
  rfl
 ·have hf:=Go.MapKept.run_findKey (w:=w) hus h1
  have hmem:e∈es.toList:=List.mem_of_getElem? h2
  have:b=true:=hb.2 ⟨e,hmem,h3⟩
  subst this
  obtain⟨t,_,hv⟩:=he e hmem
  rw[hv] at hf
  simp only[Instr.lookup,Sem.run_bind,run_underlying hu,Result.andThen_ok,Go.MapKept.run_getObj_map hh,Sem.run_pure,hck,hf]
  rfl
def strKeys:List (AV×AV×Nat)→Bool
 |[]=>true
 |(.str _,.bool true,_)::l=>strKeys l
 |_=>false
theorem qo {ρ:Env}:∀{es:List (AV×AV×Nat)},strKeys es=true→∀e∈es.map (aH ρ),∃t,e.key= .string t∧e.val= .bool true
 |[],_,e,he=>by cases he
 |x::l,h,e,he=>by
  unfold strKeys at h
  split at h
  ·rename_i q;cases q
  ·rename_i t c l' q
   obtain⟨rfl,rfl⟩:=List.cons.inj q
   rw[List.map_cons] at he
   rcases List.mem_cons.1 he with rfl | he
   ·exact⟨_,rfl,rfl⟩
   ·exact qo h e he
  ·cases h
theorem Lt:∃es clock,OA=[(0,.map es clock)]∧strKeys es=true∧dY=es.map fun x=>match x.1 with
 | .str l=>l
 |_=>[]:=⟨_,_,rfl,by kernel_rfl,rfl⟩
theorem any_keys (ρ:Env)(s:ByteArray):∀{es:List (AV×AV×Nat)},strKeys es=true→(((es.map fun x=>match x.1 with
 | .str l=>l
 |_=>[]).any fun l=>decide (aa l=s))=true↔∃e∈es.map (aH ρ),e.key= .string s)
 |[],_=>by simp
 |x::l,h=>by
  unfold strKeys at h
  split at h
  ·rename_i q;cases q
  ·rename_i t c l' q
   obtain⟨rfl,rfl⟩:=List.cons.inj q
   rw[List.map_cons,List.map_cons,List.any_cons,Bool.or_eq_true,any_keys ρ s h]
   constructor
   ·rintro (h1 | ⟨e,he,hk⟩)
    ·refine⟨_,zn,?_⟩
     show Value.string (aa t)=_
     rw[of_decide_eq_true h1]
    ·exact⟨e,zm _ he,hk⟩
   ·rintro ⟨e,he,hk⟩
    rcases List.mem_cons.1 he with rfl | he
    ·have hk:Value.string (aa t)=Value.string s:=hk
     injection hk with hk
     exact .inl (decide_eq_true hk)
    ·exact .inr ⟨e,he,hk⟩
  ·cases h
theorem afN (w:World)(hG:gJ w):
 Calls Tryz.prog 64 #[] w fun e w'=>∃r,e= .returned (.map (some r))∧(∀W,Below w'.heap.size w' W→∀s,(Instr.lookup 129 (.map (some r)) (.string s) false).run Tryz.prog W= .ok (.bool (dW s)) W)∧Below w.heap.size w w':=by
 refine (rE (bD gN EE) (Km Fx) rfl trivial w hG).mono ?_
 rintro e w' ⟨ρ,rfl,hr,hb⟩
 obtain⟨es,clock,h1,h2,h3⟩:=Lt
 have hh:=(hr 0 (.map es clock) (by rw[h1];exact aC _ _ _)).1
 refine⟨ρ.blk 0,rfl,fun W hW s=>?_,hb⟩
 have hh':W.heap[ρ.blk 0]? =some (.map (es.map (aH ρ)).toArray clock):=(hW.block _ (lt_of_heap hh)).trans hh
 refine abt hh' (by simpa using qo h2) s _ ?_
 unfold dW
 rw[h3]
 exact any_keys ρ s h2
end Go.Proofs.YtceaodnohnekkaaGreatDoor.Ex
namespace Go.Proofs.YtceaodnohnekkaaGreatDoor
open Go.RowKit Ex
def yX:List ay→Nat→Int
 |[],_=>-1
 |o::l,k=>if bz o=false then (k:Int) else yX l (k+1)
theorem tT:∀{l:List ay} {k i:Nat},(∀j o,j < i→l[j]? =some o→bz o=true)→i≤l.length→yX l k=yX (l.drop i) (k+i)
 |l,k,0,_,_=>by simp
 |[],k,i+1,_,h=>by simp at h
 |o::l,k,i+1,h,hl=>by
  have h0:=h 0 o (by omega) rfl
  rw[show yX (o::l) k=(if bz o=false then (k:Int) else yX l (k+1)) from rfl,h0,List.drop_succ_cons]
  simp only[Bool.true_eq_false,if_false]
  rw[tT (l:=l) (k:=k+1) (i:=i) (fun j t hj ht=>h (j+1) t (by omega) (by simpa using ht)) (by simpa using hl),show k+1+i=k+(i+1) by omega]
theorem Ki:∀(l:List ay) (k:Nat),decide (0≤yX l k)= !(l.all bz)
 |[],k=>rfl
 |o::l,k=>by
  unfold yX
  rw[List.all_cons]
  cases hf:bz o
  ·simp
  ·simp[Ki l (k+1)]
theorem acS (o:ay)(ho:mQ o)(w:World)(hG:gJ w):
 Calls Tryz.prog 66 #[.agg #[.int .i64 o.1,.int .i64 o.2.1,.int .i64 o.2.2]] w fun e w'=>e= .returned (.bool (!bz o))∧Below w.heap.size w w':=by
 have C:Hid (∀W,Below w.heap.size w W→Calls Tryz.prog 67 #[.agg #[.int .i64 o.1,.int .i64 o.2.1,.int .i64 o.2.2]] W fun e w'=>e= .returned (.bool (bz o))∧Below W.heap.size W w'):=fun W hb=>afn o ho W (hG.after hb)
 have HA:Hid (Below w.heap.size w (w.alloc (.cells #[.int .i64 o.1,.int .i64 o.2.1,.int .i64 o.2.2] 65))):=(zo _ _).alloc (zu _) _
 clear ho hG
 go_enter Tryz.func66,Tryz.ntmps66
 go_wp2_with (go_at_call 67;refine (C.out _ HA.out).mono ?_;rintro e w1 ⟨rfl,hb⟩;have HB:=zz (HA.out.trans (hb.mono HA.out.size));clear hb)
 go_ret
 exact⟨rfl,HB.out⟩
set_option maxHeartbeats 1000000 in
theorem abO (A:Option Addr)(l:List ay)(n c:Nat)(w:World)(p:Nat→Prop)(hG:gJ w)(hn:l.length=n)(hm:(n:Int)≤1000)(h64:∀o∈l,mQ o)(h:Rd w p A (bE l)):
 Calls Tryz.prog 127 #[.slice A n c,.func (.func 66) #[] #[]] w fun e w'=>e= .returned (.int .i64 (yX l 0))∧Below w.heap.size w w':=by
 have HR:=zz h
 have HN:=zz hn
 have H64:=zz h64
 have HG:=zz hG
 clear h hn h64 hG
 go_enter Tryz.func127,Tryz.ntmps127
 go_wp2
 go_loopw [8] (fun v wr=>∃k:Nat,v= .int .i64 k∧k≤n∧Hid (∀j o,j < k→l[j]? =some o→bz o=true)∧Hid (Below w.heap.size w wr)) (fun v _=>n - (intOf v).toNat)
 case atStart=>exact⟨0,rfl,by omega,fun j _ hj=>absurd hj (Nat.not_lt_zero _),zo _ _⟩
 case round=>
  obtain⟨k,rfl,hk,hr,hb⟩:=hrel
  by_cases hlt:k < n
  ·have hk1:k < l.length:=by rw[HN.out];exact hlt
   have e1:=List.getElem?_eq_getElem hk1
   obtain⟨o,ho⟩:∃o,l[k]=o:=⟨_,rfl⟩
   rw[ho] at e1
   obtain⟨q,off,rfl,_,c0,c1,c2⟩:=(HR.out.after hb.out).o3 e1
   have HZ:=zz e1
   have C:=zz (acS o (H64.out o (List.mem_of_getElem? e1)) wr (HG.out.after hb.out))
   clear e1 ho
   cases hv:bz o
   ·have HI:Hid (yX l 0=(k:Int)):=by
     have h1:=tT (k:=0) hr.out (by have:=HN.out;omega)
     have h2:l.drop k=o::l.drop (k+1):=by
      rw[List.drop_eq_getElem_cons hk1]
      have:=List.getElem?_eq_getElem hk1
      rw[HZ.out] at this
      rw[Option.some.inj this]
     show _=_
     rw[h1,h2]
     unfold yX
     simp[hv]
    have C':=C.out
    rw[hv] at C'
    have C'':=zz C'
    clear hv C C'
    go_wp2_with (go_at_call 66;refine C''.out.mono ?_;rintro e w1 ⟨rfl,hb1⟩;have HB1:=zz (hb.out.trans (hb1.mono hb.out.size));clear hb1)
    go_ret
    exact⟨bH HI.out.symm,HB1.out⟩
   ·have HV:=zz hv
    have C':=C.out
    rw[hv] at C'
    have C'':=zz C'
    clear hv C C'
    go_wp2_with (go_at_call 66;refine C''.out.mono ?_;rintro e w1 ⟨rfl,hb1⟩;have HB1:=zz (hb.out.trans (hb1.mono hb.out.size));clear hb1)
    go_roundw
    case rel=>exact⟨k+1,by go_num,by omega,fun j t hj ht=>by
     by_cases e:j=k
     ·subst e
      rw[HZ.out] at ht
      rw[← Option.some.inj ht];exact HV.out
     ·exact hr.out j t (by omega) ht,HB1.out⟩
    case measure=>simp[intOf];omega
  ·have HI:Hid (yX l 0= -1):=by
    have h1:=tT (k:=0) (i:=l.length) (fun j t hj=>hr.out j t (by have:=HN.out;omega)) (zu _)
    show _=_
    rw[h1,List.drop_length];rfl
   go_wp2
   go_ret
   exact⟨bH HI.out.symm,hb.out⟩
theorem VI (A:Option Addr)(l:List ay)(n c:Nat)(w:World)(p:Nat→Prop)(hG:gJ w)(hn:l.length=n)(hm:(n:Int)≤1000)(h64:∀o∈l,mQ o)(h:Rd w p A (bE l)):
 Calls Tryz.prog 65 #[.slice A n c,.func (.func 66) #[] #[]] w fun e w'=>e= .returned (.bool (!(l.all bz)))∧Below w.heap.size w w':=by
 have F:=zz (abO A l n c w p hG hn hm h64 h)
 have HA:=zz (Ki l 0)
 clear h hn hm h64 hG
 go_enter Tryz.func65,Tryz.ntmps65
 go_wp2_with (go_at_call 127;refine F.out.mono ?_;rintro e w' ⟨rfl,hb⟩;have HB:=zz hb;clear hb)
 go_ret
 exact⟨aQ HA.out,HB.out⟩
def eF (s:ByteArray)(l:List ay):Nat:=if dW s=false then 12 else if 3 < l.length then 11 else if l.all bz=false then 2 else 0
set_option maxRecDepth 100000 in
set_option maxHeartbeats 2000000 in
theorem BQ (s:ByteArray)(A:Option Addr)(l:List ay)(n c:Nat)(w:World)(p:Nat→Prop)(hG:gJ w)(hn:l.length=n)(hm:(n:Int)≤1000)(h64:∀o∈l,mQ o)(h:Rd w p A (bE l)):
 Calls Tryz.prog 33 #[.agg #[.string s,.slice A n c]] w fun e w'=>e= .returned (.int .i64 (eF s l:Nat))∧Below w.heap.size w w':=by
 have C1:Hid (∀W,Below w.heap.size w W→Calls Tryz.prog 64 #[] W fun e w'=>∃r,e= .returned (.map (some r))∧(∀V,Below w'.heap.size w' V→∀s,(Instr.lookup 129 (.map (some r)) (.string s) false).run Tryz.prog V= .ok (.bool (dW s)) V)∧Below W.heap.size W w'):=fun W hb=>afN W (hG.after hb)
 have C2:Hid (∀W,Below w.heap.size w W→Calls Tryz.prog 65 #[.slice A n c,.func (.func 66) #[] #[]] W fun e w'=>e= .returned (.bool (!(l.all bz)))∧Below W.heap.size W w'):=fun W hb=>VI A l n c W p (hG.after hb) hn hm h64 (h.after hb)
 have HA:Hid (Below w.heap.size w (w.alloc (.cells #[.string s,.slice A n c] 24))):=(zo _ _).alloc (zu _) _
 have HK:=zz (Bk.new w 24 [.string s,.slice A n c])
 have HP:Hid (dW s=false∧eF s l=12∨dW s=true∧(decide (3 < n)=true∧eF s l=11∨decide (3 < n)=false∧eF s l=(if l.all bz=false then 2 else 0))):=by
  show _∨_
  unfold eF
  cases hk:dW s
  ·exact .inl ⟨rfl,rfl⟩
  ·refine .inr ⟨rfl,?_⟩
   rw[hn]
   by_cases h3:3 < n
   ·exact .inl ⟨decide_eq_true h3,by simp[h3]⟩
   ·exact .inr ⟨decide_eq_false h3,by simp[h3]⟩
 clear h hn h64 hG
 generalize eF s l=v at HP ⊢
 go_enter Tryz.func33,Tryz.ntmps33
 go_wp2
 have g0:=HK.out.cell 0 rfl
 have Hd:=zz (aM HA.out)
 generalize w.alloc (.cells #[.string s,.slice A n c] 24)=W0 at HA HK g0 Hd ⊢
 first | (go_region_held3 (fun w'=>w'.cell? ⟨w.heap.size,0,none⟩=some (.string s)) (first | assumption | go_keep) ((go_at_call 64;refine (C1.out _ Hd.out).mono ?_;rintro e w1 ⟨r,rfl,hl,hb⟩;have HB1:=zz (Hd.out.trans (hb.mono Hd.out.size));have fE:=zz (HK.out.drew.after hb);have x0:=fE.out.cell 0 rfl;have hlk:=hl w1 (zo _ _) s;clear hl hb))) | fail
 all_goals
  clear hlk
  have x1:=fE.out.cell 1 rfl
  obtain⟨kb,hkb⟩:∃kb,dW s=kb:=⟨_,rfl⟩
  rw[hkb] at HP ⊢
  clear hkb
  rcases HP.out with⟨rfl,rfl⟩ | ⟨rfl,⟨h3,rfl⟩ | ⟨h3,hv⟩⟩
  ·clear HP
   go_wp2
   go_ret
   exact⟨rfl,HB1.out⟩
  ·clear HP
   have h3':(3:Int) < (n:Int):=by have:=of_decide_eq_true h3;omega
   clear h3
   go_wp2
   go_ret
   exact⟨rfl,HB1.out⟩
  ·clear HP
   have h3':¬(3:Int) < (n:Int):=by have:=of_decide_eq_false h3;omega
   have HV:=zz hv
   clear h3 hv
   cases hal:l.all bz
   all_goals
    have C2':=C2.out
    rw[hal] at C2'
    have ayX:=zz C2'
    have HAL:=zz hal
    clear C2 C2' hal
    go_wp2_with (go_at_call 65;refine (ayX.out _ HB1.out).mono ?_;rintro e w2 ⟨rfl,hb⟩;have HB2:=zz (HB1.out.trans (hb.mono HB1.out.size));clear hb)
    go_ret
    exact⟨bH (by rw[HV.out,HAL.out];rfl),HB2.out⟩
end Go.Proofs.YtceaodnohnekkaaGreatDoor
