/- Parts of the proof of TopLines. -/
import Derived.Test.YtpjjgpjhpobkiaaGreatDoorMK13
import Derived.Test.YtpjjgpjhpobkiaaGreatDoorMC0
import Derived.Test.YtpjjgpjhpobkiaaGreatDoorMC1
set_option maxHeartbeats 0
set_option maxRecDepth 100000
namespace Go.Proofs.YtpjjgpjhpobkiaaGreatDoor
section
open Go.RowKit Ex
theorem eX.of {f:Nat→Bool}:∀{n:Nat},(∀i,i < n→f i=true)→eX f n
 |0,_=>trivial
 |n+1,h=>⟨h n (zS n),eX.of fun i hi=>h i (xB hi)⟩
theorem Wm (ν:Nat→Int):lT.all (QQ ν)=true:=by
 refine iM (k:=8) (n:=120) (eX.of fun i hi=>?_) zz
 have h:∀{j},eX (fun i=>ja (QQ ν) 8 lT (30 * j+i)) 30→i / 30=j→ja (QQ ν) 8 lT i=true:=fun {j} h hj=>by
  have:=h.at (i:=i % 30) (Nat.mod_lt _ zx);have e:30 * j+i % 30=i:=zy;rwa [e] at this
 have hc:i / 30=0∨i / 30=1∨i / 30=2∨i / 30=3:=zy;rcases hc with e|e|e|e
 ·exact h (ajR ν) e
 ·exact h (ajQ ν) e
 ·exact h (ajP ν) e
 ·exact h (ajO ν) e
def PE (o:aG):Nat×Nat×Bool:=(o.1.toNat,o.2.1.toNat,false)
theorem aby {k r k' r':Nat}(h:Wx k r k' r'=true):(k',r')∈abz k r:=by
 unfold abz;have h0:=h;unfold Wx at h;simp only[Bool.or_eq_true,Bool.and_eq_true,Bool.not_eq_true'] at h;rcases h with⟨h1,h2⟩|⟨h1,h2,h3⟩|⟨h1,h2,h3,_⟩
 ·rw[(beq_iff _ _).1 h1,(beq_iff _ _).1 h2];exact zb
 ·rw[h1,(beq_iff _ _).1 h2,(beq_iff _ _).1 h3];exact ze _ zb
 ·rw[h3];refine ze _ (xQ.2 ⟨wO.2 ⟨k',?_,zX.2 ⟨r',?_,rfl⟩⟩,h0⟩)
  ·rcases h2 with h2|h2|h2|h2|h2<;>rw[(beq_iff _ _).1 h2]<;>decide
  ·have:=zk h1;simp only[List.mem_cons,List.not_mem_nil,or_false];omega
theorem OE:∀{x:WH} {l:List aG},all2 x l=true→l.map PE∈abA x
 |[],[],_=>zR.2 rfl
 |[],_::_,h=>by cases h
 |_::_,[],h=>by cases h
 |x::xl,o::l,h=>by
  unfold all2 at h;rw[xk] at h;exact wO.2 ⟨_,OE h.2,zX.2 ⟨_,aby h.1,rfl⟩⟩
theorem ZJ {nm:List Nat}{l:List aG}(h:inT nm l=true)(ν:Nat→Int):aff ν (nm,l.map PE,0)=true:=by
 obtain⟨x,hx,h⟩:=xY.1 h;rw[xk] at h;have:=zY.1 (Wm ν) x hx;rw[← bJ h.1];exact zY.1 this _ (OE h.2)
def OpK (o:aG):Prop:=(0≤o.1∧0≤o.2.1)∧(o.1=6→0≤o.2.2∧o.2.2≤9223372036854775807)
theorem Ty {ρ:Env}:∀(l:List aG) (ν:Nat→Int) (i:Nat),(∀o∈l,OpK o)→(∀j o,l[j]? =some o→ν (i+j)=o.2.2)→aH ρ (KE ν i (l.map PE))=dD l∧oks 2 (KE ν i (l.map PE))∧(KE ν i (l.map PE)).length=l.length * 3
 |[],_,_,_,_=>⟨rfl,trivial,rfl⟩
 |o::l,ν,i,h,hν=>by
  obtain⟨k,r,z⟩:=o;obtain⟨⟨h1,h2⟩,h6⟩:=h _ zb
  obtain⟨q1,q2,q3⟩:=Ty (ρ:=ρ) l ν (i+1) (fun o ho=>h o (ze _ ho)) fun j o hj=>by
   have:=hν (j+1) o hj;rwa [show i+(j+1)=i+1+j by omega] at this
  have h0:ν i=z:=hν 0 (k,r,z) rfl;have e1:Int.ofNat k.toNat=k:=xP h1;have e2:Int.ofNat r.toNat=r:=xP h2;show aH ρ (.int .i64 (.ofNat k.toNat):: .int .i64 (.ofNat r.toNat)::cond (Nat.beq k.toNat 6) _ _::KE ν (i+1) (l.map PE))= .int .i64 k:: .int .i64 r:: .int .i64 z::dD l∧oks 2 (.int .i64 (.ofNat k.toNat):: .int .i64 (.ofNat r.toNat)::cond (Nat.beq k.toNat 6) _ _::KE ν (i+1) (l.map PE))∧(.int .i64 (.ofNat k.toNat):: .int .i64 (.ofNat r.toNat)::cond (Nat.beq k.toNat 6) (AV.sym _ _) _::KE ν (i+1) (l.map PE)).length=_
  cases hb:Nat.beq k.toNat 6 with
  |false=>exact⟨by simp only[aH,cv,cond_false,e1,e2,h0,q1],⟨trivial,trivial,trivial,q2⟩,by simp only[List.length_cons,q3];omega⟩
  |true=>
   have hk:k=6:=by
    have:=(beq_iff _ _).1 hb;omega
   obtain⟨b1,b2⟩:=h6 hk;have b1:0≤z:=b1;have b2:z≤9223372036854775807:=b2;refine⟨by simp only[aH,cv,cond_true,e1,e2,h0,q1],⟨trivial,trivial,fun f hf=>?_,q2⟩,by simp only[List.length_cons,q3];omega⟩
   obtain rfl:=zR.1 hf;rw[h0];show (decide (Int.ofNat 0≤z) && decide (z≤Int.ofNat 9223372036854775807))=true;rw[zC (show Int.ofNat 0≤z from b1),zC (show z≤Int.ofNat 9223372036854775807 from b2)]
   rfl
def nuO (l:List aG)(i:Nat):Int:=match l[i]? with
 |some o=>o.2.2
 |none=>0
abbrev wrT:TypeId:=207
theorem Om {f:Nat}{nm:List Nat}{l:List aG}{z:Bool}(hB:∀ν,stB ν (nm,l.map PE,0) z f=true)(hl:∀o∈l,OpK o){w0 W:World}(hG:eT w0)(hb:Below w0.heap.size w0 W){b g c:Nat}{v:Value}(hk:Bk W b wrT [.string (ag nm),v])(hb0:w0.heap.size≤b)
 (hv:(z=true∧v= .slice none 0 0)∨(z=false∧v= .slice (some ⟨g,0,none⟩) l.length c∧w0.heap.size≤g∧∃cur,W.heap[g]? =some (.cells cur 174 (0,0))∧l.length≤c∧c≤maxLen∧cur.size=c * 3∧cur.toList.take (l.length * 3)=dD l)):
 Calls Tryz.prog f #[.pointer (some ⟨b,0,none⟩)] W fun e w'=>e= .returned (.tuple #[])∧Below W.heap.size W w':=by
 have h:=hB (nuO l);unfold stB at h;dsimp only at h;split at h
 case h_2=>cases h
 case h_1 nx bl gl hrun=>
 obtain⟨e1,e2,e3⟩:=Ty (ρ:=⟨fun q=>if q=0 then g else b,fun _=>c,fun _=>(⟨0,0,none⟩,0)⟩) l (nuO l) 0 hl fun j o hj=>by
  unfold nuO;rw[yD,hj]
 have hW:aJ w0 ⟨fun q=>if q=0 then g else b,fun _=>c,fun _=>(⟨0,0,none⟩,0)⟩ (afg (nuO l) nm (l.map PE) z) W:=by
  rcases hv with⟨rfl,rfl⟩|⟨rfl,rfl,hg,cur,hh,h1,h2,h3,h4⟩
  ·have h0:∀q kk,au q (afg (nuO l) nm (l.map PE) true).bl=some kk→q=1∧kk= .cells [.str nm,.bT] wrT none:=fun q kk hq=>by
    by_cases hq1:q=1
    ·subst hq1;exact⟨rfl,zq (hq.symm.trans (aA _ _ _))⟩
    ·have:=hq.symm.trans (aD _ _ fun e=>hq1 e.symm)
     cases this
   refine⟨hb,fun q kk hq=>?_,fun q q' kk kk' h1 h2 _=>(h0 q kk h1).1.trans (h0 q' kk' h2).1.symm,fun q kk hq=>?_,by show [1].Nodup;decide,hG⟩
   ·obtain⟨rfl,rfl⟩:=h0 q kk hq;exact⟨by show 1 < 2;decide,⟨trivial,trivial,trivial⟩,hb0,lt_of_heap hk⟩
   ·obtain⟨rfl,rfl⟩:=h0 q kk hq;exact hk
  ·have hgb:g≠b:=fun e=>by
    subst e;have h4:W.heap[g]? =some (.cells _ wrT (0,0)):=hk;rw[hh] at h4;have:=zq h4;injection this with _ h5
    exact absurd h5 zx
   have h0:∀q kk,au q (afg (nuO l) nm (l.map PE) false).bl=some kk→(q=1∧kk= .cells [.str nm,.slice 0 0 0 (l.map PE).length none] wrT none)∨(q=0∧kk= .cells (KE (nuO l) 0 (l.map PE)) 174 (some 3)):=fun q kk hq=>by
    by_cases hq1:q=1
    ·subst hq1;exact .inl ⟨rfl,zq (hq.symm.trans (aA _ _ _))⟩
    ·have hq:=hq.symm.trans (aD _ _ fun e=>hq1 e.symm)
     by_cases hq0:q=0
     ·subst hq0;exact .inr ⟨rfl,zq (hq.trans (aA _ _ _))⟩
     ·have:=hq.trans (aD _ _ fun e=>hq0 e.symm)
      cases this
   refine⟨hb,fun q kk hq=>?_,fun q q' kk kk' h1 h2 he=>?_,fun q kk hq=>?_,by show [1,0].Nodup;decide,hG⟩
   ·rcases h0 q kk hq with⟨rfl,rfl⟩|⟨rfl,rfl⟩
    ·exact⟨by show 1 < 2;decide,⟨trivial,by show 0 < 2;decide,trivial⟩,hb0,lt_of_heap hk⟩
    ·exact⟨by show 0 < 2;decide,e2,hg,lt_of_heap hh⟩
   ·rcases h0 q kk h1 with⟨rfl,_⟩|⟨rfl,_⟩<;>rcases h0 q' kk' h2 with⟨rfl,_⟩|⟨rfl,_⟩
    ·rfl
    ·exact absurd he.symm hgb
    ·exact absurd he hgb
    ·rfl
   ·rcases h0 q kk hq with⟨rfl,rfl⟩|⟨rfl,rfl⟩
    ·rw[zI];exact hk
    ·exact⟨l.length,cur,hh,h1,h2,h3,e3,by rw[h4,e1]⟩
 obtain⟨_,_,q3⟩:=aT fB aaV _ _ _ _ _ hrun;have hc:=q3 w0 _ W ⟨show 1 < 2 by decide,trivial⟩ hW
 have ea:(aH ⟨fun q=>if q=0 then g else b,fun _=>c,fun _=>(⟨0,0,none⟩,0)⟩ [.ptr 1 0]).toArray=#[.pointer (some ⟨b,0,none⟩)]:=by
  simp only[aH,cv];rfl
 rw[ea] at hc;refine hc.mono ?_;rintro e w' ⟨ρ',rfl,hP,_⟩;exact⟨rfl,hP.fZ rfl⟩
def IV (nm:List Nat)(l:List aG):Prop:=∀f∈stF,∀(w0 W:World) (b:Nat) (v:Value),eT w0→Below w0.heap.size w0 W→w0.heap.size≤b→Bk W b wrT [.string (ag nm),v]→W.ownsRow w0.heap.size 174 3 v l.length (dD l)→Calls Tryz.prog f #[.pointer (some ⟨b,0,none⟩)] W fun e w'=>e= .returned (.tuple #[])∧Below W.heap.size W w'
theorem abe {nm:List Nat}{l:List aG}(h:inT nm l=true)(hl:∀o∈l,aP o=true∧(o.1=6→0≤o.2.2)):IV nm l:=fun f hf w0 W b v hG hb hb0 hk ho=>by
 have hK:∀o∈l,OpK o:=fun o ho=>by
  obtain⟨k,r,_,_,e1,e2,_,_,h2,_⟩:=qg (hl o ho).1;exact⟨⟨zy,zy⟩,fun h6=>⟨(hl o ho).2 h6,zy⟩⟩
 have h1:∀ν,kV (stB ν (nm,l.map PE,0) false) stF=true:=fun ν=>by
  have:=ZJ h ν;unfold aff at this;exact ((xk _ _).mp this).1
 rcases ho.2 with⟨rfl,hn⟩|⟨g,cap,cur,rfl,hB,hh,h3,h4,h5,h6⟩
 ·have hl0:l=[]:=wh.1 hn;subst hl0
  have h2:∀ν,kV (stB ν (nm,[],0) true) stF=true:=fun ν=>by
   have:=ZJ h ν;unfold aff at this;exact ((xk _ _).mp this).2
  exact Om (g:=0) (c:=0) (fun ν=>bM (h2 ν) hf) hK hG hb hk hb0 (.inl ⟨rfl,rfl⟩)
 ·exact Om (fun ν=>bM (h1 ν) hf) hK hG hb hk hb0 (.inr ⟨rfl,rfl,hB,cur,hh,h3,h4,h5,h6⟩)
def ag3 (w:World)(nm:List Nat)(A:Option Addr)(n c:Nat)(l:List aG):Prop:=∀W,Below w.heap.size w W→Calls Tryz.prog 53 #[.agg #[.string (ag nm),.slice A n c]] W fun e w'=>∃A' c',e= .returned (.agg #[.string (ag nm),.slice A' n c'])∧Ow w' W.heap.size A' l∧Below W.heap.size W w'
abbrev nX (k:Nat):Value:=.func (.func k) #[] #[]
theorem step0 (w:World):(Instr.index 209 (.agg #[nX 103,nX 104,nX 105]) (.int .i64 0)).run Tryz.prog w= .ok (nX 103) w:=by kernel_rfl
theorem step1 (w:World):(Instr.index 209 (.agg #[nX 103,nX 104,nX 105]) (.int .i64 1)).run Tryz.prog w= .ok (nX 104) w:=by kernel_rfl
theorem step2 (w:World):(Instr.index 209 (.agg #[nX 103,nX 104,nX 105]) (.int .i64 2)).run Tryz.prog w= .ok (nX 105) w:=by kernel_rfl
def OfP (w:World)(b:Nat)(nm:List Nat)(v:Value)(l:List aG)(W:World):Prop:=Bk W b wrT [.string (ag nm),v]∧W.ownsRow (w.heap.size+1+1) 174 3 v l.length (dD l)∧Below w.heap.size w W∧Bk W (w.heap.size+1) 28 [.string ⟨#[]⟩,.slice none 0 0]
theorem OfP.after {w W W':World}{b:Nat}{nm:List Nat}{v:Value}{l:List aG}(h:OfP w b nm v l W)(hb:Below W.heap.size W W'):OfP w b nm v l W':=⟨h.1.after hb,mr h.2.1 hb,h.2.2.1.trans (hb.mono h.2.2.1.size),h.2.2.2.after hb⟩
theorem EX {nm:List Nat}{l:List aG}(hC:IV nm l)(A:Option Addr)(n c:Nat)(w:World)(p:Nat→Prop)(hn:n=l.length)(hm:l.length≤3)(hG:eT w)(h:Rd w p A (dD l)):
 Calls Tryz.prog 53 #[.agg #[.string (ag nm),.slice A n c]] w fun e w'=>∃A' c',e= .returned (.agg #[.string (ag nm),.slice A' n c'])∧Ow w' w.heap.size A' l∧Below w.heap.size w w':=by
 have C1:Hid (∀W,Below w.heap.size w W→Calls Tryz.prog 102 #[.slice A n c] W fun e w'=>∃A' c',e= .returned (.slice A' n c')∧w'.ownsRow W.heap.size 174 3 (.slice A' n c') l.length (dD l)∧Below W.heap.size W w'):=fun W hb=>by
  refine (DI A l n c W p hn zy (h.after hb)).mono ?_;rintro e w' ⟨v,rfl,ho,hb'⟩;obtain⟨A',c',rfl,_,_⟩:=bg ho;subst hn;exact⟨A',c',rfl,ho,hb'⟩
 have CS:Hid (∀f∈stF,∀(b:Nat) (v:Value) W,w.heap.size≤b→OfP w b nm v l W→Calls Tryz.prog f #[.pointer (some ⟨b,0,none⟩)] W fun e w'=>e= .returned (.tuple #[])∧Below W.heap.size W w'):=fun f hf b v W hb0 hO=>hC f hf w W b v hG hO.2.2.1 hb0 hO.1 (own_base' hO.2.1 zy)
 have CA:=zo (CS.out 103 (by simp[stF]))
 have CE:=zo (CS.out 104 (by simp[stF]))
 have CN:=zo (CS.out 105 (by simp[stF]))
 have H0:Hid (Bk ((w.alloc (.cells #[.string (ag nm),.slice A n c] 28)).alloc (.cells #[.string ⟨#[]⟩,.slice none 0 0] 28)) w.heap.size 28 [.string (ag nm),.slice A n c]∧Bk ((w.alloc (.cells #[.string (ag nm),.slice A n c] 28)).alloc (.cells #[.string ⟨#[]⟩,.slice none 0 0] 28)) (w.heap.size+1) 28 [.string ⟨#[]⟩,.slice none 0 0]∧Below w.heap.size w ((w.alloc (.cells #[.string (ag nm),.slice A n c] 28)).alloc (.cells #[.string ⟨#[]⟩,.slice none 0 0] 28))):=
  ⟨(Bk.new w 28 [.string (ag nm),.slice A n c]).alloc _,by
    have:=Bk.new (w.alloc (.cells #[.string (ag nm),.slice A n c] 28)) 28 [.string ⟨#[]⟩,.slice none 0 0];rwa [zU] at this,((zh _ _).alloc (zn _) _).alloc zw _⟩
 have s0:=step0;have s1:=step1;have s2:=step2;have g0:=H0.1.cell 0 rfl;have g1:=H0.1.cell 1 rfl;have HN:=zo hn;clear h hn hm hG hC CS;go_enter Tryz.func53,Tryz.ntmps53;go_wp2;generalize ((w.alloc (.cells #[.string (ag nm),.slice A n c] 28)).alloc (.cells #[.string ⟨#[]⟩,.slice none 0 0] 28))=W0 at H0 g0 g1 ⊢;have Hd:=zo (aL H0.2.2)
 first|(go_region_held3 (fun w'=>w'.cell? ⟨w.heap.size,0,none⟩=some (.string (ag nm))∧w'.cell? ⟨w.heap.size,1,none⟩=some (.slice A n c)) (first|assumption|go_keep) ((go_at_call 102;refine (C1.out _ Hd.out).mono ?_;rintro e w1 ⟨A1,c1,rfl,ho,hb⟩;have H1:=zo (zM ((show Bk W0.drew w.heap.size _ _ from H0.1).after hb) (zM ((show Bk W0.drew (w.heap.size+1) _ _ from H0.2.1).after hb) (zM (Hd.trans (hb.mono Hd.size)) ho)));have HS1:=zo hb.size;have x0:=H1.1.cell 0 rfl;have x1:=H1.1.cell 1 rfl;clear hb ho)))|fail
 all_goals
  have ann:w.heap.size+1+1≤W0.heap.size:=H0.2.1.lt;have aqk:W0.heap.size≤w1.heap.size:=HS1.out;have ha:=(zh w1.heap.size w1).alloc (zn _) (.cells #[.string (ag nm),.slice A1 n c1] wrT)
  have H2:Hid (OfP w w1.heap.size nm (.slice A1 n c1) l (w1.alloc (.cells #[.string (ag nm),.slice A1 n c1] wrT))):=
   ⟨Bk.new w1 wrT [.string (ag nm),.slice A1 n c1],mr (own_base' H1.2.2.2 ann) ha,H1.2.2.1.trans (ha.mono H1.2.2.1.size),H1.2.1.after ha⟩
  have HB2:Hid (w.heap.size≤w1.heap.size):=by
   show _≤_;omega
  clear g0 g1 x0 x1 ann aqk ha;obtain⟨b,hb⟩:∃b,w1.heap.size=b:=⟨_,rfl⟩;rw[hb] at H2 HB2 ⊢;generalize w1.alloc (.cells #[.string (ag nm),.slice A1 n c1] wrT)=W1 at H2 ⊢;clear hb;go_wp2;refine xG 4 ?_;rw[y7]
  go_wp2_with (go_at_call 103;refine (CA.out b _ _ HB2.out H2.out).mono ?_;rintro e w3 ⟨rfl,hb⟩;have H3:=zo (H2.after hb);clear hb)
  rw[y7]
  go_wp2_with (go_at_call 104;refine (CE.out b _ _ HB2.out H3.out).mono ?_;rintro e w4 ⟨rfl,hb⟩;have H4:=zo (H3.after hb);clear hb)
  rw[y7]
  go_wp2_with (go_at_call 105;refine (CN.out b _ _ HB2.out H4.out).mono ?_;rintro e w5 ⟨rfl,hb⟩;have H5:=zo (H4.after hb);clear hb)
  have z0:=H5.1.cell 0 rfl;have z1:=H5.1.cell 1 rfl;have r0:=H5.2.2.2.cell 0 rfl;have r1:=H5.2.2.2.cell 1 rfl;have fr0:=H5.2.2.2.frozen 0;have fr1:=H5.2.2.2.frozen 1;rw[y7];go_wp2;have k:=(H5.2.2.2.set 0 (.string (ag nm))).set 1 (.slice A1 n c1);have y0:=k.cell 0 rfl;have y1:=k.cell 1 rfl;have hn:=HN.out;clear HN;subst hn;refine xx (v:=.agg #[.string (ag nm),.slice A1 l.length c1]) (by simp[results,Tryz.results53,go_sem,y0,y1]) rfl ⟨A1,c1,rfl,(((Ow.jf H5.2.1).other zw _).other zw _).mono zy,(H5.2.2.1.setCell zw _).setCell zw _⟩
end
section
open Go.RowKit Go.Shelf Ex
attribute [local go_sem] wZ
def Fp (s:ByteArray)(lc:List aG)(pre:List gy)(code:Int):Prop:=
 (code=11∧∀x∈pre,dO s lc x.2.1=false)∨(code=2∧(∃x∈pre,dO s lc x.2.1=true∧jd x.1.1 x.1.2=some x.2.1∧x.1.1≤6∧x.1.2 < 256)∧∀x∈pre,kI s lc x.2.1=false)
theorem XQ (s:ByteArray)(lc:List aG):Fp s lc [] 11:=.inl ⟨rfl,fun x hx=>by cases hx⟩
theorem ada {s:ByteArray}{lc:List aG}{pre:List gy}{code:Int}{x:gy}(h:Fp s lc pre code)(hm:dO s lc x.2.1=false):Fp s lc (pre++[x]) code:=by
 rcases h with⟨rfl,h⟩|⟨rfl,⟨y,hy,h1⟩,h⟩
 ·refine .inl ⟨rfl,fun z hz=>?_⟩
  rcases zA.1 hz with hz|hz
  ·exact h z hz
  ·rw[zR.1 hz];exact hm
 ·refine .inr ⟨rfl,⟨y,xV _ hy,h1⟩,fun z hz=>?_⟩
  rcases zA.1 hz with hz|hz
  ·exact h z hz
  ·rw[zR.1 hz];exact Ib hm
theorem XP {s:ByteArray}{lc:List aG}{pre:List gy}{code:Int}{x:gy}(h:Fp s lc pre code)(hm:dO s lc x.2.1=true)(hf:kI s lc x.2.1=false)(hd:jd x.1.1 x.1.2=some x.2.1)(hp:x.1.1≤6)(ho:x.1.2 < 256):Fp s lc (pre++[x]) 2:=by
 refine .inr ⟨rfl,⟨x,xC _ (zR.2 rfl),hm,hd,hp,ho⟩,fun z hz=>?_⟩
 rcases zA.1 hz with hz|hz
 ·rcases h with⟨_,h⟩|⟨_,_,h⟩
  ·exact Ib (h z hz)
  ·exact h z hz
 ·rw[zR.1 hz];exact hf
theorem Iu {l m:List Nat}(hl:∀x∈l,x < 256)(hm:∀x∈m,x < 256)(h:ag l=ag m):l=m:=Kj hl hm (by
 rw[← uP,h];exact beq_self_eq_true _)
theorem PH {nm:List Nat}(hnm:∀x∈nm,x < 256){lc:List aG}(hv:∀o∈lc,uV o){xs:List gy}(hall:aky nm lc xs){code:Int}(h:Fp (ag nm) lc xs code):Rk (ag nm) lc code:=by
 have key:∀(p o:Nat) (d:bL),p≤6→o < 256→jd p o=some d→dO (ag nm) lc d=true→∃x∈xs,x.2.1=d:=fun p o d hp ho hd hm=>by
  obtain⟨h1,_,h3,_⟩:=lv hm;obtain⟨x,hx,_,hxd⟩:=hall p o d (Y6 hv hp hd hm).1 ho hd h1 (Iu (eF hd).2.2.2 hnm h3);exact⟨x,hx,hxd⟩
 rcases h with⟨rfl,h⟩|⟨rfl,⟨y,hy,h1,h2,h3,h4⟩,h⟩
 ·refine .inr (.inr ⟨rfl,fun p o d hp ho hd=>?_⟩)
  cases hm:dO (ag nm) lc d with
  |false=>rfl
  |true=>
   obtain⟨x,hx,rfl⟩:=key p o d hp ho hd hm;rw[h x hx] at hm
   cases hm
 ·refine .inr (.inl ⟨rfl,⟨_,_,_,h3,h4,h2,h1⟩,fun p o d hp ho hd=>?_⟩)
  cases hm:kI (ag nm) lc d with
  |false=>rfl
  |true=>
   obtain⟨x,hx,rfl⟩:=key p o d hp ho hd (kH hm);rw[h x hx] at hm
   cases hm
section
variable {W W':World} {row:Option Nat}
theorem iE {b:Nat}{T:TypeId}{vs:List Value}(h:Bk W b T vs)(hg:W.grownBy W' row)(hr:∀r,row=some r→∃o:Obj,W.heap[r]? =some o∧o.isCells=false):Bk W' b T vs:=(hg.block b h.lt fun e=>by
 obtain⟨o,ho,hc⟩:=hr b e.symm;have h':W.heap[b]? =some (.cells vs.toArray T (0,0)):=h;rw[h'] at ho;obtain rfl:=zq ho
 cases hc).trans h
theorem EW {w:World}{p:Addr}{v:Value}(h:w.cell? p=some v):∃cur T f,w.heap[p.block]? =some (.cells cur T f):=by
 unfold World.cell? at h;split at h
 ·rename_i e;exact⟨_,_,_,e⟩
 ·cases h
theorem nD {p:Nat→Prop}{A:Option Addr}{xs:List Value}(h:Rd W p A xs)(hg:W.grownBy W' row)(hr:∀r,row=some r→∃o:Obj,W.heap[r]? =some o∧o.isCells=false):Rd W' p A xs:=fun hx=>by
 obtain⟨ad,e,hp,hc⟩:=h hx;refine⟨ad,e,hp,fun j u hu=>hg.cell (hc j u hu) fun e=>?_⟩
 obtain⟨cur,T,f,h1⟩:=EW (hc j u hu);obtain⟨o,ho,hn⟩:=hr _ e.symm;rw[h1] at ho;obtain rfl:=zq ho
 cases hn
theorem MI {B:Nat}{x:gy}(h:dF B W x)(hg:W.grownBy W' row)(hr:∀r,row=some r→∃o:Obj,W.heap[r]? =some o∧o.isCells=false):dF B W' x:=by
 refine⟨h.d,h.k,h.o,?_⟩;rcases h.r with h|⟨h0,q,m,cur,h1,h2,hh,h'⟩
 ·exact .inl h
 ·refine .inr ⟨h0,q,m,cur,h1,h2,(hg.block q (lt_of_heap hh) fun e=>?_).trans hh,h'⟩
  obtain⟨o,ho,hn⟩:=hr q e.symm;rw[hh] at ho;obtain rfl:=zq ho
  cases hn
end
def qb (B:Nat)(W W':World):Prop:=W.heap.size≤W'.heap.size∧∀k,B≤k→k < W.heap.size→W'.heap[k]? =W.heap[k]?
theorem qb.trans {B:Nat}{X Y Z:World}(h:qb B X Y)(k:qb B Y Z):qb B X Z:=⟨zV h.1 k.1,fun i h1 h2=>(k.2 i h1 (zZ h2 h.1)).trans (h.2 i h1 h2)⟩
theorem qb.below {B:Nat}{W W':World}(h:Below W.heap.size W W'):qb B W W':=⟨h.size,fun k _ hk=>h.block k hk⟩
theorem qb.set {B:Nat}(W:World)(p:Addr)(u:Value)(_hp:p.block < B):qb B W (W.setCell p u):=⟨zw,fun k hk _=>zG W p u k zy⟩
theorem qb.from {B:Nat}{W W':World}(h:qb B W W'):KeepsFrom B W W':=⟨h.1,fun k _ hB ho _=>(h.2 k hB (lt_of_heap ho)).trans ho⟩
theorem qb.e {B:Nat}{W W':World}(h:qb B W W'):Gb B W W':=⟨h.1,fun k _ hB ho _=>(h.2 k hB (lt_of_heap ho)).trans ho⟩
structure WM (w W:World)(b2 b3:Nat)(nm:List Nat)(b5:Nat)(A5:Option Addr)(n5 c5:Nat)(lc:List aG)(b6:Nat)(code:Int):Prop where
 k2:Bk W b2 133 [.int .i64 0,.int .u8 0,.string ⟨#[]⟩,.slice none 0 0,.string ⟨#[]⟩,.bool false]
 k3:Bk W b3 35 [.int .i64 0]
 k5:Bk W b5 28 [.string (ag nm),.slice A5 n5 c5]
 k6:Bk W b6 35 [.int .i64 code]
 r5:Rd W (fun i=>i < b5) A5 (dD lc)
 bl:Below w.heap.size w W
theorem WM.after {w W W':World}{b2 b3:Nat}{nm:List Nat}{b5:Nat}{A5:Option Addr}{n5 c5:Nat}{lc:List aG}{b6:Nat}{code:Int}(h:WM w W b2 b3 nm b5 A5 n5 c5 lc b6 code)(hb:Below W.heap.size W W'):WM w W' b2 b3 nm b5 A5 n5 c5 lc b6 code:=⟨h.k2.after hb,h.k3.after hb,h.k5.after hb,h.k6.after hb,h.r5.after hb,h.bl.trans (hb.mono h.bl.size)⟩
theorem WM.own {w W W':World}{row:Option Nat}{b2 b3:Nat}{nm:List Nat}{b5:Nat}{A5:Option Addr}{n5 c5:Nat}{lc:List aG}{b6:Nat}{code:Int}(h:WM w W b2 b3 nm b5 A5 n5 c5 lc b6 code)(hg:W.grownBy W' row)(hr:∀r,row=some r→w.heap.size≤r∧∃o:Obj,W.heap[r]? =some o∧o.isCells=false):WM w W' b2 b3 nm b5 A5 n5 c5 lc b6 code:=
 ⟨iE h.k2 hg fun r e=>(hr r e).2,iE h.k3 hg fun r e=>(hr r e).2,iE h.k5 hg fun r e=>(hr r e).2,iE h.k6 hg fun r e=>(hr r e).2,nD h.r5 hg fun r e=>(hr r e).2,h.bl.grown hg h.bl.size fun k e=>(hr k e).1⟩
theorem WM.two {w W:World}{b2 b3:Nat}{nm:List Nat}{b5:Nat}{A5:Option Addr}{n5 c5:Nat}{lc:List aG}{b6:Nat}{code:Int}(h:WM w W b2 b3 nm b5 A5 n5 c5 lc b6 code)(h2:b2≠b6)(h3:b3≠b6)(h5:b5 < b6)(hw:w.heap.size≤b6)(z:Int):WM w (W.setCell ⟨b6,0,none⟩ (.int .i64 z)) b2 b3 nm b5 A5 n5 c5 lc b6 z:=
 ⟨h.k2.other h2 _,h.k3.other h3 _,h.k5.other (by show b5≠b6;omega) _,h.k6.set 0 _,h.r5.keep fun i _ hi=>zG W ⟨b6,0,none⟩ _ i (by show i≠b6;omega),h.bl.setCell hw _⟩
theorem nS {B:Nat}{W:World}{x:gy}(h:dF B W x){p:Addr}(_hp:p.block < B)(u:Value):dF B (W.setCell p u) x:=by
 refine⟨h.d,h.k,h.o,?_⟩;rcases h.r with h|⟨h0,q,m,cur,h1,h2,hh,h'⟩
 ·exact .inl h
 ·exact .inr ⟨h0,q,m,cur,h1,h2,(zG W p u q zy).trans hh,h'⟩
structure FdX (w W:World)(b2 b3:Nat)(nm:List Nat)(lc:List aG)(x:gy):Prop where
 k2:Bk W b2 133 (di x)
 k3:Bk W b3 35 [.int .i64 0]
 e:dF w.heap.size W x
 p:x.1.1≤6
 f:kI (ag nm) lc x.2.1=true
 bl:Below w.heap.size w W
theorem FdX.own {w W W':World}{row:Option Nat}{b2 b3:Nat}{nm:List Nat}{lc:List aG}{x:gy}(h:FdX w W b2 b3 nm lc x)(hg:W.grownBy W' row)(hr:∀r,row=some r→w.heap.size≤r∧∃o:Obj,W.heap[r]? =some o∧o.isCells=false):FdX w W' b2 b3 nm lc x:=
 ⟨iE h.k2 hg fun r e=>(hr r e).2,iE h.k3 hg fun r e=>(hr r e).2,MI h.e hg fun r e=>(hr r e).2,h.p,h.f,h.bl.grown hg h.bl.size fun k e=>(hr k e).1⟩
def fdS (W:World)(b2 b3:Nat)(x:gy):World:=(((((((W.setCell ⟨b2,0,none⟩ (.int .i64 (x.1.1:Int))).setCell ⟨b2,1,none⟩ (.int .u8 (x.1.2:Int))).setCell ⟨b2,2,none⟩ (.string (ag x.2.1.2.1))).setCell ⟨b2,3,none⟩ (.slice x.2.2.1 (x.2.1.2.2.2.2.length / 3) x.2.2.2)).setCell ⟨b2,4,none⟩ (.string (ag x.2.1.2.2.1))).setCell ⟨b2,5,none⟩ (.bool x.2.1.2.2.2.1)).setCell ⟨b3,0,none⟩ (.int .i64 0))
theorem aas {w W:World}{B b2 b3:Nat}{nm:List Nat}{b5:Nat}{A5:Option Addr}{n5 c5:Nat}{lc:List aG}{b6:Nat}{code:Int}{x:gy}(h:WM w W b2 b3 nm b5 A5 n5 c5 lc b6 code)(hne:b3≠b2)(h2:b2 < B)(h3:b3 < B)(hw2:w.heap.size≤b2)(hw3:w.heap.size≤b3)(hB:w.heap.size≤B)(hE:dF B W x)(hp:x.1.1≤6)(hf:kI (ag nm) lc x.2.1=true):FdX w (fdS W b2 b3 x) b2 b3 nm lc x∧qb B W (fdS W b2 b3 x):=by
 have k2:=(((((h.k2.set 0 (.int .i64 (x.1.1:Int))).set 1 (.int .u8 (x.1.2:Int))).set 2 (.string (ag x.2.1.2.1))).set 3 (.slice x.2.2.1 (x.2.1.2.2.2.2.length / 3) x.2.2.2)).set 4 (.string (ag x.2.1.2.2.1))).set 5 (.bool x.2.1.2.2.2.1);have k3:=((((((h.k3.other (p:=⟨b2,0,none⟩) hne (.int .i64 (x.1.1:Int))).other (p:=⟨b2,1,none⟩) hne (.int .u8 (x.1.2:Int))).other (p:=⟨b2,2,none⟩) hne (.string (ag x.2.1.2.1))).other (p:=⟨b2,3,none⟩) hne (.slice x.2.2.1 (x.2.1.2.2.2.2.length / 3) x.2.2.2)).other (p:=⟨b2,4,none⟩) hne (.string (ag x.2.1.2.2.1))).other (p:=⟨b2,5,none⟩) hne (.bool x.2.1.2.2.2.1)).set 0 (.int .i64 0);refine⟨⟨k2.other (p:=⟨b3,0,none⟩) (xq hne) _,k3,?_,hp,hf,?_⟩,?_⟩
 ·exact (nS (nS (nS (nS (nS (nS (nS hE (p:=⟨b2,0,none⟩) h2 _) (p:=⟨b2,1,none⟩) h2 _) (p:=⟨b2,2,none⟩) h2 _) (p:=⟨b2,3,none⟩) h2 _) (p:=⟨b2,4,none⟩) h2 _) (p:=⟨b2,5,none⟩) h2 _) (p:=⟨b3,0,none⟩) h3 _).mono hB
 ·exact ((((((h.bl.setCell hw2 _).setCell hw2 _).setCell hw2 _).setCell hw2 _).setCell hw2 _).setCell hw2 _).setCell hw3 _
 ·exact ((((((qb.set _ _ _ h2).trans (qb.set _ _ _ h2)).trans (qb.set _ _ _ h2)).trans (qb.set _ _ _ h2)).trans (qb.set _ _ _ h2)).trans (qb.set _ _ _ h2)).trans (qb.set _ _ _ h3)
def fdZ (W:World)(b2:Nat):World:=((((((W.setCell ⟨b2,0,none⟩ (.int .i64 0)).setCell ⟨b2,1,none⟩ (.int .u8 0)).setCell ⟨b2,2,none⟩ (.string ⟨#[]⟩)).setCell ⟨b2,3,none⟩ (.slice none 0 0)).setCell ⟨b2,4,none⟩ (.string ⟨#[]⟩)).setCell ⟨b2,5,none⟩ (.bool false))
theorem Ke {W:World}{b2 b:Nat}{T:TypeId}{vs:List Value}(h:Bk W b T vs)(hne:b≠b2):Bk (fdZ W b2) b T vs:=(((((h.other (p:=⟨b2,0,none⟩) hne _).other (p:=⟨b2,1,none⟩) hne _).other (p:=⟨b2,2,none⟩) hne _).other (p:=⟨b2,3,none⟩) hne _).other (p:=⟨b2,4,none⟩) hne _).other (p:=⟨b2,5,none⟩) hne _
theorem aeV {w W:World}{B b2 b3:Nat}{nm:List Nat}{b5:Nat}{A5:Option Addr}{n5 c5:Nat}{lc:List aG}{b6:Nat}{code:Int}(h:WM w W b2 b3 nm b5 A5 n5 c5 lc b6 code)(hne:b3≠b2)(h2:b2 < B)(h3:b3 < B)(hw2:w.heap.size≤b2)(hw3:w.heap.size≤b3):
 Bk ((fdZ W b2).setCell ⟨b3,0,none⟩ (.int .i64 code)) b2 133 [.int .i64 0,.int .u8 0,.string ⟨#[]⟩,.slice none 0 0,.string ⟨#[]⟩,.bool false]∧Bk ((fdZ W b2).setCell ⟨b3,0,none⟩ (.int .i64 code)) b3 35 [.int .i64 code]∧Below w.heap.size w ((fdZ W b2).setCell ⟨b3,0,none⟩ (.int .i64 code))∧qb B W ((fdZ W b2).setCell ⟨b3,0,none⟩ (.int .i64 code)):=by
 have k2:=(((((h.k2.set 0 (.int .i64 0)).set 1 (.int .u8 0)).set 2 (.string ⟨#[]⟩)).set 3 (.slice none 0 0)).set 4 (.string ⟨#[]⟩)).set 5 (.bool false);refine⟨k2.other (p:=⟨b3,0,none⟩) (xq hne) _,(Ke h.k3 hne).set 0 _,?_,?_⟩
 ·exact ((((((h.bl.setCell hw2 _).setCell hw2 _).setCell hw2 _).setCell hw2 _).setCell hw2 _).setCell hw2 _).setCell hw3 _
 ·exact ((((((qb.set _ _ _ h2).trans (qb.set _ _ _ h2)).trans (qb.set _ _ _ h2)).trans (qb.set _ _ _ h2)).trans (qb.set _ _ _ h2)).trans (qb.set _ _ _ h2)).trans (qb.set _ _ _ h3)
theorem Tc (s:ByteArray)(lc:List aG)(d:bL)(h:dO s lc d=true):kI s lc d=aeR d.2.2.1 (opsL d.2.2.2.2) lc:=by
 unfold kI;rw[h];rfl
theorem JA {nm:List Nat}(h:nm∈fe):nm.length≤4:=by
 have h1:=aU PZ h;simp only[Bool.and_eq_true] at h1
 cases hb:Nat.ble nm.length 4 with
 |true=>exact zk hb
 |false=>
  have h2:=h1.1;rw[hb] at h2
  cases h2
def fdA (w:World)(nm:List Nat)(A:Option Addr)(n c:Nat)(b5:Nat)(A5:Option Addr)(n5 c5:Nat)(v:Value)(Bx:Nat):Act:={ tmps:=#[.agg #[.string (ag nm),.slice A n c],.pointer (some ⟨w.heap.size,0,none⟩),.pointer (some ⟨w.heap.size+1,0,none⟩),.pointer (some ⟨w.heap.size+1+1,0,none⟩),.int .i64 0,.pointer (some ⟨b5,0,none⟩),.pointer (some ⟨b5+1,0,none⟩),.pointer (some ⟨Bx,0,none⟩),undef,undef,undef,.agg #[.string (ag nm),.slice A n c],.int .i64 0,.int .i64 0,.bool false,undef,undef,.agg #[.string (ag nm),.slice A n c],.agg #[.string (ag nm),.slice A5 n5 c5],.agg #[.string (ag nm),.slice A5 n5 c5],.func (.func 181) #[] #[.pointer (some ⟨b5+1+1,0,none⟩)],v,undef,undef,undef,undef,undef,undef,undef,undef,undef,undef,undef,undef,undef,undef,undef,undef,undef,undef,undef],defers:=[]}
theorem aar {w w1 w2:World}{b2 b3:Nat}{nm:List Nat}{A5:Option Addr}{n5 c5:Nat}{lc:List aG}(h2:Bk w1 b2 133 [.int .i64 0,.int .u8 0,.string ⟨#[]⟩,.slice none 0 0,.string ⟨#[]⟩,.bool false])(h3:Bk w1 b3 35 [.int .i64 0])(hb1:Below w.heap.size w w1)(hb:Below w1.heap.size w1 w2)(hr:Rd w2 (fun _=>True) A5 (dD lc)):
 WM w (((w2.alloc (.cells #[.string (ag nm),.slice A5 n5 c5] 28)).alloc (.cells #[.int .i64 11] 35)).alloc (.cells #[.string (ag nm),.slice A5 n5 c5] 28)) b2 b3 nm w2.heap.size A5 n5 c5 lc (w2.heap.size+1) 11:=by
 have a1:=(zh w2.heap.size w2).alloc (zn _) (.cells #[.string (ag nm),.slice A5 n5 c5] 28);have a2:=(zh _ (w2.alloc (.cells #[.string (ag nm),.slice A5 n5 c5] 28))).alloc (zn _) (.cells #[.int .i64 11] 35);have a3:=(zh _ ((w2.alloc (.cells #[.string (ag nm),.slice A5 n5 c5] 28)).alloc (.cells #[.int .i64 11] 35))).alloc (zn _) (.cells #[.string (ag nm),.slice A5 n5 c5] 28);have k6:=Bk.new (w2.alloc (.cells #[.string (ag nm),.slice A5 n5 c5] 28)) 35 [.int .i64 11];rw[zU] at k6;refine⟨(((h2.after hb).after a1).after a2).after a3,(((h3.after hb).after a1).after a2).after a3,((Bk.new w2 _ _).after a2).after a3,k6.after a3,(((hr.mono (q:=fun i=>i < w2.heap.size) fun i hi _=>hi).after a1).after a2).after a3,?_⟩
 have s1:=hb1.trans (hb.mono hb1.size);have s2:=s1.trans (a1.mono s1.size);have s3:=s2.trans (a2.mono s2.size);exact s3.trans (a3.mono s3.size)
theorem Ie (nm:List Nat)(hnm:nm∈fe)(A:Option Addr)(l:List aG)(n c:Nat)(w:World)(p:Nat→Prop)(hG:eT w)(hn:l.length=n)(hm:l.length≤3)(h64:∀o∈l,B64 o)(h:Rd w p A (dD l))(hok:pR (ag nm) l=0)(hC:ag3 w nm A n c l):
 Calls Tryz.prog 58 #[.agg #[.string (ag nm),.slice A n c]] w fun e w'=>∃code E,e= .returned (.tuple #[E,.int .i64 code])∧(code≠0→E= .agg #[.int .i64 0,.int .u8 0,.string ⟨#[]⟩,.slice none 0 0,.string ⟨#[]⟩,.bool false])∧Rk (ag nm) l code∧(code=0→∃x,E=kU x∧dF w.heap.size w' x∧x.1.1≤6∧kI (ag nm) l x.2.1=true)∧Below w.heap.size w w':=by
 have hbyte:=MM hnm;have hval:=(aa4 hok).2.2;have hidx:∀o∈l,uV o:=fun o ho=>Ud (hval o ho)
 have CC:Hid (∀W,Below w.heap.size w W→Calls Tryz.prog 111 #[.agg #[.string (ag nm),.slice A n c]] W fun e w'=>e= .returned (.int .i64 0)∧Below W.heap.size W w'):=fun W hb=>by
  have:=Wp (ag nm) A l n c W p (hG.after hb) hn zy h64 (h.after hb);rw[hok] at this;exact this
 obtain⟨lc,hlc⟩:∃lc,l=lc:=⟨_,rfl⟩;have hl5:lc.length≤3:=by rw[← hlc];exact hm
 have hn5:lc.length=n:=by rw[← hlc];exact hn
 rw[hlc] at hidx hC ⊢;clear hlc;have CO:Hid (∀W,Below w.heap.size w W→Calls Tryz.prog 53 #[.agg #[.string (ag nm),.slice A n c]] W fun e w'=>∃A' c',e= .returned (.agg #[.string (ag nm),.slice A' n c'])∧Ow w' W.heap.size A' lc∧Below W.heap.size W w'):=hC
 have CK:=zo (fun A5 c5 W=>abd (ag nm) A5 n c5 W)
 have HG:=zo hG;have HX:=zo (zM hl5 (zM hidx (zM hn5 (zM hbyte hnm))));clear h hok h64 hG hval hidx hl5 hn5 hbyte hnm hm hn hC;refine (ym (n:=3)).1 ?_;refine callsIn_of_wp_marks Tryz.func58 rfl trivial ?_ rfl;simp only[Tryz.ntmps58,List.size_toArray,List.length_cons,List.length_nil,Nat.reduceAdd,Nat.reduceSub,Array.replicate_succ,Array.replicate_zero,List.push_toArray,List.append_toArray,List.nil_append,List.cons_append];have hmx:Tryz.prog.follows .mixedOrders=true:=by kernel_rfl
 have HA:Hid (∀o1 o2 o3:Obj,Below w.heap.size w (((w.alloc o1).alloc o2).alloc o3)):=fun o1 o2 o3=>(((zh _ _).alloc (zn _) _).alloc zw _).alloc zu _
 have K1:Hid (∀o2 o3:Obj,Bk (((w.alloc (.cells #[.string (ag nm),.slice A n c] 28)).alloc o2).alloc o3) w.heap.size 28 [.string (ag nm),.slice A n c]):=fun o2 o3=>((Bk.new w _ _).alloc _).alloc _
 have K2:Hid (∀o1 o3:Obj,Bk (((w.alloc o1).alloc (.cells #[.int .i64 0,.int .u8 0,.string ⟨#[]⟩,.slice none 0 0,.string ⟨#[]⟩,.bool false] 133)).alloc o3) (w.heap.size+1) 133 [.int .i64 0,.int .u8 0,.string ⟨#[]⟩,.slice none 0 0,.string ⟨#[]⟩,.bool false]):=fun o1 o3=>by
  have:=(Bk.new (w.alloc o1) 133 [.int .i64 0,.int .u8 0,.string ⟨#[]⟩,.slice none 0 0,.string ⟨#[]⟩,.bool false]).alloc o3;rwa [zU] at this
 have K3:Hid (∀o1 o2:Obj,Bk (((w.alloc o1).alloc o2).alloc (.cells #[.int .i64 0] 35)) (w.heap.size+1+1) 35 [.int .i64 0]):=fun o1 o2=>by
  have:=Bk.new ((w.alloc o1).alloc o2) 35 [.int .i64 0];rwa [zU,zU] at this
 gi_wp2_with (first
  |(refine⟨trivial,?_⟩;gi_at_call 111;refine (ym.2 (CC.out _ (HA.out _ _ _))).mono ?_;rintro e w1 ⟨rfl,hb⟩;have L1:=zo ((K1.out _ _).after hb);have L2:=zo ((K2.out _ _).after hb);have L3:=zo ((K3.out _ _).after hb);have HB1:=zo ((HA.out _ _ _).trans (hb.mono (HA.out _ _ _).size));have y0:=L1.cell 0 rfl;have y1:=L1.cell 1 rfl;clear hb)
  |(refine⟨trivial,?_⟩;gi_at_call 53;refine (ym.2 (CO.out _ HB1.out)).mono ?_;rintro e w2 ⟨A5,c5,rfl,ho,hb⟩;have HW:=zo (aar (nm:=nm) (n5:=n) (c5:=c5) L2.out L3.out HB1.out hb (ho.rd.jH fun _ _=>trivial));have HS2:Hid (w.heap.size+3≤w2.heap.size):=zV (show w.heap.size+2 < _ from L3.lt) hb.size;clear hb ho)
  |(refine⟨trivial,?_⟩;gi_at_call 112;refine (ym.2 (CK.out _ _ _)).mono ?_;rintro e w3 ⟨rfl,rfl⟩))
 clear CC CO CK K1 K2 K3 HA L1 L2 L3 y0 y1
 have HBc:Hid (Bk (((w2.alloc (.cells #[.string (ag nm),.slice A5 n c5] 28)).alloc (.cells #[.int .i64 11] 35)).alloc (.cells #[.string (ag nm),.slice A5 n c5] 28)) (w2.heap.size+1+1) 28 [.string (ag nm),.slice A5 n c5]):=by
  have:=Bk.new ((w2.alloc (.cells #[.string (ag nm),.slice A5 n c5] 28)).alloc (.cells #[.int .i64 11] 35)) 28 [.string (ag nm),.slice A5 n c5];rwa [zU,zU] at this
 have hs0:(((w2.alloc (.cells #[.string (ag nm),.slice A5 n c5] 28)).alloc (.cells #[.int .i64 11] 35)).alloc (.cells #[.string (ag nm),.slice A5 n c5] 28)).heap.size=w2.heap.size+1+1+1:=zw;obtain⟨b5,hb5⟩:∃b,w2.heap.size=b:=⟨_,rfl⟩;rw[hb5] at HW HBc hs0 HS2 ⊢;generalize (((w2.alloc (.cells #[.string (ag nm),.slice A5 n c5] 28)).alloc (.cells #[.int .i64 11] 35)).alloc (.cells #[.string (ag nm),.slice A5 n c5] 28))=W0 at HW HBc hs0 ⊢;clear hb5 HB1;have hs2:w.heap.size+3≤b5:=HS2.out;have hG0:=HG.after HW.bl
 refine Jq (F:=Fence.wide) (n:=3) rfl zy (gf:=181) (lb:=#[.pointer (some ⟨b5+1+1,0,none⟩)]) rfl trivial (enters_of Tryz.func181 zz rfl)
  (abb nm HX.2.2.2.2 lc HX.1 HX.2.1 (b5+1+1) A5 n c5 HX.2.2.1.symm W0 HBc.out (HW.r5.jH fun _ _=>trivial) hG0) (fun h k=>Gb.trans h k) (fun W l o o' _ hl ho _=>Gb.putObj W l o o' hl ho) (fun _=>rfl)
  (fun pre W=>∃code,Fp (ag nm) lc pre code∧WM w W (w.heap.size+1) (w.heap.size+1+1) nm b5 A5 n c5 lc (b5+1) code)
  (fun cc pre W=>cc= .ret∧∃x,FdX w W (w.heap.size+1) (w.heap.size+1+1) nm lc x)
  (fun s W W' row ⟨code,h1,h2⟩ hg hr=>⟨code,h1,h2.own hg fun r e=>⟨by have:=(hr r e).1;omega,(hr r e).2⟩⟩)
  (fun cc s W W' row ⟨h1,x,h2⟩ hg hr=>⟨h1,x,h2.own hg fun r e=>⟨by have:=(hr r e).1;omega,(hr r e).2⟩⟩)
  ⟨11,XQ _ _,HW.out⟩
  (fun x a' W=>∃Bx,Bk W Bx 133 (di x)∧dF W0.heap.size W x∧x.1.1∈bB lc∧a'=fdA w nm A n c b5 A5 n c5 (kU x) Bx)
  (fun x a' s W W' row ⟨Bx,h1,h2,h3,h4⟩ hg hr=>⟨Bx,iE h1 hg fun r e=>(hr r e).2,MI h2 hg fun r e=>(hr r e).2,h3,h4⟩)
  ?assign ?body ?done ?stop
 case assign=>
  rintro l pre x Wr W K _ ⟨code,hs,hi⟩ hbb ⟨hE,qP⟩ hK;have hi:=hi.after hbb;have ha:=(zh W.heap.size W).alloc (zn _) (.cells (di x).toArray 133);have hk:=hK (fdA w nm A n c b5 A5 n c5 (kU x) W.heap.size) (W.alloc (.cells (di x).toArray 133)) (qb.below ha).from (qb.below ha).e ⟨code,hs,hi.after ha⟩ ⟨W.heap.size,Bk.new W _ _,hE.after ha,qP,rfl⟩
  clear hK hi hE ha;obtain⟨⟨p',o'⟩,d,A9,c9⟩:=x;unfold fdA kU at hk;dsimp only[di] at hk ⊢;gi_wp2;exact hk
 case body=>
  rintro l pre x a' W _ ⟨code,hs,hi⟩ ⟨Bx,hBx,hE,qP,rfl⟩;have hd1:1≤3 - 1 - 1:=zy;have hEw:dF w.heap.size W x:=hE.mono zy;have CS:=zo (GD hEw (ag nm) (by rw[aC];have:=JA HX.2.2.2.2;omega) A5 n c5 lc HX.2.2.1.symm HX.1 (hi.r5.jH fun _ _=>trivial))
  have CF:Hid (jo (ag x.2.1.2.1) (ag nm) (opsL x.2.1.2.2.2.2) lc=true→∀W',Below W.heap.size W W'→Calls Tryz.prog 114 #[kU x,.agg #[.string (ag nm),.slice A5 n c5]] W' fun e w'=>e= .returned (aeS x.2.1 lc)∧Below W'.heap.size W' w'):=fun hs W' hb=>aeP HG.out (hi.after hb).bl (hEw.after hb) HX.2.2.2.2 A5 n c5 lc HX.2.2.1.symm HX.1 ((hi.after hb).r5.jH fun _ _=>trivial) hs
  have HM:Hid (dO (ag nm) lc x.2.1=(!x.2.1.2.2.2.1 && jo (ag x.2.1.2.1) (ag nm) (opsL x.2.1.2.2.2.2) lc)):=by
   show _=_;unfold dO;rw[hE.k];rfl
  have HFV:Hid (dO (ag nm) lc x.2.1=true→aeS x.2.1 lc=NL (kI (ag nm) lc x.2.1) (takeN (kQ x.2.1) lc) (takeN (l8 x.2.1) (gI (kQ x.2.1) lc))):=fun h=>by
   rw[Tc _ _ _ h,← NM (jk hE.d hE.k) (lv h).2.2.2];rfl
  have HSn:=zo (fun h=>ada (x:=x) hs h)
  have HS2:=zo (fun h h'=>XP (x:=x) hs h h' hE.d (Af _ _ qP) hE.o)
  have HI:=zo hi;have HE:=zo (zM hE qP);have HBx:=zo hBx;clear hs hi hEw hE qP hBx;obtain⟨⟨p',o'⟩,d,A9,c9⟩:=x;unfold fdA;unfold kU at CS CF ⊢;dsimp only[di] at CS CF HBx ⊢;dsimp only at HM HFV HSn HS2;generalize takeN (kQ d) lc=dv at HFV;generalize takeN (l8 d) (gI (kQ d) lc)=nv at HFV;generalize aeS d lc=fv at CF HFV;obtain⟨mb,hmb⟩:∃mb,dO (ag nm) lc d=mb:=⟨_,rfl⟩;have HFX:=zo (fun (h:kI (ag nm) lc d=true)=>h)
  obtain⟨fb,rU⟩:∃fb,kI (ag nm) lc d=fb:=⟨_,rfl⟩;have HFB:=zo rU;rw[hmb] at HM HFV HSn HS2;rw[rU] at HFV HS2;clear hmb rU HFX;generalize jo (ag d.2.1) (ag nm) (opsL d.2.2.2.2) lc=sb at CS CF HM;have x0:=HBx.cell 0 rfl;have x1:=HBx.cell 1 rfl;have x2:=HBx.cell 2 rfl;have x3:=HBx.cell 3 rfl;have x4:=HBx.cell 4 rfl;have x5:=HBx.cell 5 rfl;have z0:=HI.k5.cell 0 rfl;have z1:=HI.k5.cell 1 rfl;generalize hal:d.2.2.2.1=al at CS CF HM HBx x5
  cases al
  ·cases sb
   ·have hm:mb=false:=by rw[HM.out];rfl
    subst hm;have HS:=zo (HSn.out rfl);clear HFV HS2 HSn HM CF HFB
    gi_wp2_with (refine⟨trivial,?_⟩;gi_at_call 113;refine (CallsIn.inRound l (ym.2 CS.out)).mono ?_;rintro e W1 ⟨rfl,hb⟩;have HB:=zo hb;clear hb)
    exact⟨(qb.below HB.out).from,(qb.below HB.out).e,code,HS.out,HI.after HB.out⟩
   ·have hm:mb=true:=by rw[HM.out];rfl
    subst hm;have hfv:=HFV.out rfl;subst hfv;have CFe:=zo (CF.out rfl);clear HFV HSn HM CF
    cases fb
    ·have HS:=zo (HS2.out rfl rfl);simp only[NL,Bool.false_eq_true,if_false] at CFe;clear HS2
     gi_wp2_with (first
      |(refine⟨trivial,?_⟩;gi_at_call 114;refine (CallsIn.inRound l (ym.2 (CFe.out _ HB.out))).mono ?_;rintro e W2 ⟨rfl,hb⟩;have HB2:=zo (HB.trans (hb.mono HB.size));have HI2:=zo (HI.after HB2.out);have u6:=HI2.k6.cell 0 rfl;have f6:=HI2.k6.frozen 0;clear hb)
      |(refine⟨trivial,?_⟩;gi_at_call 113;refine (CallsIn.inRound l (ym.2 CS.out)).mono ?_;rintro e W1 ⟨rfl,hb⟩;have HB:=zo hb;have sD:=zo (HBx.after hb);have HI1:=zo (HI.after hb);have y0:=sD.cell 0 rfl;have y1:=sD.cell 1 rfl;have y2:=sD.cell 2 rfl;have y3:=sD.cell 3 rfl;have y4:=sD.cell 4 rfl;have y5:=sD.cell 5 rfl;have v0:=HI1.k5.cell 0 rfl;have v1:=HI1.k5.cell 1 rfl;clear hb))
     have hk:=(qb.below (B:=W0.heap.size) HB2.out).trans (qb.set W2 ⟨b5+1,0,none⟩ (.int .i64 2) (by show b5+1 < _;omega))
     exact⟨hk.from,hk.e,2,HS.out,HI2.two zy zy zy zy 2⟩
    ·clear HS2;simp only[NL,if_true] at CFe
     gi_upto_region 11 with (first
      |(refine⟨trivial,?_⟩;gi_at_call 114;refine (CallsIn.inRound l (ym.2 (CFe.out _ HB.out))).mono ?_;rintro e W2 ⟨rfl,hb⟩;have HB2:=zo (HB.trans (hb.mono HB.size));have HI2:=zo (HI.after HB2.out);have WJ:=zo (sD.after hb);clear hb)
      |(refine⟨trivial,?_⟩;gi_at_call 113;refine (CallsIn.inRound l (ym.2 CS.out)).mono ?_;rintro e W1 ⟨rfl,hb⟩;have HB:=zo hb;have sD:=zo (HBx.after hb);have HI1:=zo (HI.after hb);have y0:=sD.cell 0 rfl;have y1:=sD.cell 1 rfl;have y2:=sD.cell 2 rfl;have y3:=sD.cell 3 rfl;have y4:=sD.cell 4 rfl;have y5:=sD.cell 5 rfl;have v0:=HI1.k5.cell 0 rfl;have v1:=HI1.k5.cell 1 rfl;clear hb))
     clear x0 x1 x2 x3 x4 x5 y0 y1 y2 y3 y4 y5 v0 v1 z0 z1 CS CFe HI1 sD;obtain⟨b2,hb2⟩:∃b,w.heap.size+1=b:=⟨_,rfl⟩;obtain⟨b3,hb3⟩:∃b,b2+1=b:=⟨_,rfl⟩;have hK2:=HI2.k2;have hK3:=HI2.k3;rw[hb2] at hK2 hK3;rw[hb3] at hK3;have hne:b3≠b2:=zy;have r0:=hK2.cell 0 rfl;have r1:=hK2.cell 1 rfl;have r2:=hK2.cell 2 rfl;have r3:=hK2.cell 3 rfl;have r4:=hK2.cell 4 rfl;have r5:=hK2.cell 5 rfl;have f0:=hK2.frozen 0;have f1:=hK2.frozen 1;have f2:=hK2.frozen 2;have f3:=hK2.frozen 3;have f4:=hK2.frozen 4;have f5:=hK2.frozen 5;have q0:=WJ.cell 0 rfl;have q1:=WJ.cell 1 rfl;have q2:=WJ.cell 2 rfl;have q3:=WJ.cell 3 rfl;have q4:=WJ.cell 4 rfl;have q5:=WJ.cell 5 rfl;have HC3:Hid (Bk ((((((W2.setCell ⟨b2,0,none⟩ (.int .i64 (p':Int))).setCell ⟨b2,1,none⟩ (.int .u8 (o':Int))).setCell ⟨b2,2,none⟩ (.string (ag d.2.1))).setCell ⟨b2,3,none⟩ (.slice A9 (d.2.2.2.2.length / 3) c9)).setCell ⟨b2,4,none⟩ (.string (ag d.2.2.1))).setCell ⟨b2,5,none⟩ (.bool false)) b3 35 [.int .i64 0]):=(((((hK3.other hne _).other hne _).other hne _).other hne _).other hne _).other hne _;have u0:=HC3.cell 0 rfl;have uf:=HC3.frozen 0;have HHb:=zo (zM hb2 hb3);clear hK2 hK3 hne;rw[hb2,hb3];gi_wp2;have hX:=aas HI2.out (x:=((p',o'),d,A9,c9)) (B:=W0.heap.size) zy zy zy zy zy zy (HE.1.after HB2.out) (Af _ _ HE.2) HFB.out;unfold fdS at hX;dsimp only at hX;rw[hal] at hX;rw[← HHb.2,← HHb.1];exact⟨((qb.below HB2.out).trans hX.2).from,rfl,_,hX.1⟩
  ·have hm:mb=false:=by rw[HM.out];rfl
   subst hm;have HS:=zo (HSn.out rfl);clear HFV HS2 HSn HM CF CS HFB;gi_wp2;refine⟨trivial,?_⟩;gi_wp2;exact⟨KeepsFrom.refl _ _,Gb.refl _ _,code,HS.out,HI.out⟩
 case done=>
  rintro D xs W hD hS ⟨code,hs,hi⟩ hK;have HF:=zo (PH HX.2.2.2.1 HX.2.1 hS hs)
  have HC0:Hid (code≠0):=by
   rcases hs with⟨rfl,_⟩|⟨rfl,_⟩<;>exact fun e=>(by cases e)
  have HI:=zo (hi.after (aL (zh W.heap.size W)));have hKd:W.drew.heap[D]? =some (.deferred (some [])):=hK;have HK:=zo hKd;clear hs hi hS hK hKd;obtain⟨b2,hb2⟩:∃b,w.heap.size+1=b:=⟨_,rfl⟩;obtain⟨b3,hb3⟩:∃b,b2+1=b:=⟨_,rfl⟩;rw[hb2,hb3] at HI;rw[hb2,hb3];have HZ:=zo (aeV HI.out (B:=W0.heap.size) zy zy zy zy zy);have u6:=HI.k6.cell 0 rfl;have r0:=HI.k2.cell 0 rfl;have r1:=HI.k2.cell 1 rfl;have r2:=HI.k2.cell 2 rfl;have r3:=HI.k2.cell 3 rfl;have r4:=HI.k2.cell 4 rfl;have r5:=HI.k2.cell 5 rfl;have f0:=HI.k2.frozen 0;have f1:=HI.k2.frozen 1;have f2:=HI.k2.frozen 2;have f3:=HI.k2.frozen 3;have f4:=HI.k2.frozen 4;have f5:=HI.k2.frozen 5;have c3:=(Ke (b2:=b2) HI.k3 zy).cell 0 rfl;have e3:=(Ke (b2:=b2) HI.k3 zy).frozen 0;have c6:=(Ke (b2:=b2) HI.k6 zy).cell 0 rfl;unfold fdZ at c3 e3 c6 HZ;have HHb:=zo (zM hb2 hb3);clear HI;gi_wp2;rename_i K Lp;refine wpIn_mono (Q:=Exit.then (fun a' w'=>a'.defers=[{ target:=.collected D,args:=#[]}]∧a'.tmps.getD 2 undef= .pointer (some ⟨b2,0,none⟩)∧a'.tmps.getD 3 undef= .pointer (some ⟨b3,0,none⟩)∧w'=((((((W.drew.setCell ⟨b2,0,none⟩ (.int .i64 0)).setCell ⟨b2,1,none⟩ (.int .u8 0)).setCell ⟨b2,2,none⟩ (.string ⟨#[]⟩)).setCell ⟨b2,3,none⟩ (.slice none 0 0)).setCell ⟨b2,4,none⟩ (.string ⟨#[]⟩)).setCell ⟨b2,5,none⟩ (.bool false)).setCell ⟨b3,0,none⟩ (.int .i64 code)) (fun _ _ _=>False)) ?reg ?post
  case reg=>
   clear Lp HZ HF HK HHb hG0 HW HBc HG HX;refine wpIn_region_any hmx ?_;change wpAnyIn _ _ _ _ _ _ _ _ _ (World.drew _);generalize W.drew=V at u6 r0 r1 r2 r3 r4 r5 c3 e3 c6 f0 f1 f2 f3 f4 f5 ⊢;refine wpAnyIn_take (i:=0) (v:=.agg #[.int .i64 0,.int .u8 0,.string ⟨#[]⟩,.slice none 0 0,.string ⟨#[]⟩,.bool false]) rfl rfl zz zz zz (fun _ _ _ h=>h) ⟨Or.inl ⟨by rfl,?_⟩,fun _=>rfl⟩ ?_
   ·intro w;go_simp
   ·refine wpAnyIn_ready (rs:=[1,2]) zz zw ?_;refine AllReadyIn.cons rfl (fun K hK=>?_) (AllReadyIn.cons rfl (fun K hK=>?_) AllReadyIn.nil)
    ·go_simp;refine hK _ _ ?_;clear hK K;refine wpAnyIn_ready (rs:=[2]) zz zw (AllReadyIn.cons rfl (fun K hK=>?_) AllReadyIn.nil)
     go_simp;refine hK _ _ ?_;clear hK K;refine wpAnyIn_ready (rs:=[3]) zz zw (AllReadyIn.cons rfl (fun K hK=>?_) AllReadyIn.nil)
     go_simp;refine hK _ _ ?_;clear hK K;refine wpAnyIn_done zz ?_ _;exact⟨rfl,rfl,rfl,rfl⟩
    ·go_simp;refine hK _ _ ?_;clear hK K;refine wpAnyIn_ready (rs:=[1]) zz zw (AllReadyIn.cons rfl (fun K hK=>?_) AllReadyIn.nil)
     go_simp;refine hK _ _ ?_;clear hK K;refine wpAnyIn_ready (rs:=[3]) zz zw (AllReadyIn.cons rfl (fun K hK=>?_) AllReadyIn.nil)
     go_simp;refine hK _ _ ?_;clear hK K;refine wpAnyIn_done zz ?_ _;exact⟨rfl,rfl,rfl,rfl⟩
  case post=>
   rintro e a' w' hp
   cases e with
   |normal=>
    obtain⟨h1,h2,h3,rfl⟩:=hp;refine Lp _ _ (wpIn_ret ?_);obtain⟨tm,df⟩:=a';dsimp only at h1 h2 h3;subst h1;have HKd:=HK.out;clear r0 r1 r2 r3 r4 r5 f0 f1 f2 f3 f4 f5 c3 e3 c6 u6 HK;generalize hV:(((((((W.drew.setCell ⟨b2,0,none⟩ (.int .i64 0)).setCell ⟨b2,1,none⟩ (.int .u8 0)).setCell ⟨b2,2,none⟩ (.string ⟨#[]⟩)).setCell ⟨b2,3,none⟩ (.slice none 0 0)).setCell ⟨b2,4,none⟩ (.string ⟨#[]⟩)).setCell ⟨b2,5,none⟩ (.bool false)).setCell ⟨b3,0,none⟩ (.int .i64 code))=V at HZ ⊢;have hKc:V.heap[D]? =some (.deferred (some [])):=(HZ.2.2.2.2 D hD (lt_of_heap HKd)).trans HKd;clear HKd hV
    have hr:∀r,some D=some r→∃o:Obj,V.heap[r]? =some o∧o.isCells=false:=fun r e=>by
     obtain rfl:=zq e;exact⟨_,hKc,rfl⟩
    have k2:=iE HZ.1 (grownBy_putObj' V D (.deferred none)) hr;have k3:=iE HZ.2.1 (grownBy_putObj' V D (.deferred none)) hr
    have hbl:=HZ.2.2.1.grown (grownBy_putObj' V D (.deferred none)) HZ.2.2.1.size (fun k e=>by
     obtain rfl:=zq e;omega)
    have c0:=k2.cell 0 rfl;have c1:=k2.cell 1 rfl;have c2:=k2.cell 2 rfl;have c3:=k2.cell 3 rfl;have c4:=k2.cell 4 rfl;have c5:=k2.cell 5 rfl;have c6:=k3.cell 0 rfl;refine⟨zw,.inl ⟨_,_,rfl,run_takeDeferred hKc,?_⟩⟩;refine⟨.tuple #[.agg #[.int .i64 0,.int .u8 0,.string ⟨#[]⟩,.slice none 0 0,.string ⟨#[]⟩,.bool false],.int .i64 code],?_,code,_,rfl,fun _=>rfl,HF.out,fun e=>absurd e HC0.out,hbl⟩
    generalize V.putObj D (.deferred none)=V' at c0 c1 c2 c3 c4 c5 c6 ⊢;have h2':tm[2]?.getD undef= .pointer (some ⟨b2,0,none⟩):=by simpa using h2
    have h3':tm[3]?.getD undef= .pointer (some ⟨b3,0,none⟩):=by simpa using h3
    simp[results,Tryz.results58,go_sem,h2',h3',c0,c1,c2,c3,c4,c5,c6]
   |_=>exact hp.elim
 case stop=>
  rintro D cc pre W hD _ ⟨rfl,x,hx⟩ hK;gi_wp2
  have hr:∀r,some D=some r→∃o:Obj,W.heap[r]? =some o∧o.isCells=false:=fun r e=>by
   obtain rfl:=zq e;exact⟨_,hK,rfl⟩
  have hX:=hx.own (grownBy_putObj' W D (.deferred none)) (fun r e=>⟨by
   obtain rfl:=zq e;omega,hr r e⟩)
  refine⟨zw,.inl ⟨_,_,rfl,run_takeDeferred hK,?_⟩⟩;have OW:=zo hX;clear hx hr hK hX;generalize W.putObj D (.deferred none)=V at OW ⊢;obtain⟨⟨p',o'⟩,d,A9,c9⟩:=x;have c0:=OW.k2.cell 0 rfl;have c1:=OW.k2.cell 1 rfl;have c2:=OW.k2.cell 2 rfl;have c3:=OW.k2.cell 3 rfl;have c4:=OW.k2.cell 4 rfl;have c5:=OW.k2.cell 5 rfl;have c6:=OW.k3.cell 0 rfl;refine⟨.tuple #[kU ((p',o'),d,A9,c9),.int .i64 0],?_,0,_,rfl,fun e=>absurd rfl e,.inl ⟨rfl,p',o',d,OW.p,OW.e.o,OW.e.d,OW.f⟩,fun _=>⟨_,rfl,OW.e,OW.p,OW.f⟩,OW.bl⟩
  unfold kU di;simp[results,Tryz.results58,go_sem,c0,c1,c2,c3,c4,c5,c6]
end
section
open Go.RowKit Ex
namespace Ex
theorem aJ.up {w0:World}{ρ:Env}{W:AW}{w w':World}(h:aJ w0 ρ W w)(hb:Below w.heap.size w w'){q c:Nat}(_hq:w.heap.size≤q):Post w0 ρ W w (ρ.up W.nx q c) ⟨W.nx+1,W.bl,W.az,W.gl⟩ w':=by
 have hg:Gr w w' (fun _=>False):=⟨hb.os,hb.tape,hb.output,hb.size,fun i hi _=>hb.block i hi⟩
 have hP:=h.quiet hg;have hE:=Env.gu ρ W.nx q c;refine⟨hE,yY _,fun _ h=>h,hP.gr.mono fun _ _ ⟨b,h1,h2,h3⟩=>⟨b,h1,h2,h3⟩,fun b h1 h2 h3=>?_,⟨hP.rep.below,fun b k hk=>?_,fun b b' k k' h1 h2 e=>?_,fun b k hk=>?_,h.ng,h.gl⟩,fun _ _ h=>h,fun _ _ h=>.inl h,rfl⟩
 ·have h2:b < W.nx+1:=h2;obtain rfl:b=W.nx:=zy;rw[Env.aM] at h3;omega
 ·obtain⟨q1,q2,q3,q4⟩:=hP.rep.ok b k hk;rw[hE.blk b q1];exact⟨xB q1,q2.mono (yY _),q3,q4⟩
 ·have h1':=(hP.rep.ok b k h1).1;have h2':=(hP.rep.ok b' k' h2).1;rw[hE.blk b h1',hE.blk b' h2'] at e;exact hP.rep.inj b b' k k' h1 h2 e
 ·obtain⟨q1,q2,_,_⟩:=hP.rep.ok b k hk;exact aF.Aj rfl hE q1 q2 (hP.rep.rep b k hk)
end Ex
def q3:List Nat→List aG→Bool
 |[],[]=>true
 |a::b::_::cs,o::l=>Nat.beq a o.1.toNat && (Nat.beq b o.2.1.toNat && q3 cs l)
 |_,_=>false
theorem af1:∀{cs:List Nat} {l:List aG},cs.length % 3=0→(opsL cs).map bG=l.map bG→q3 cs l=true
 |[],[],_,_=>rfl
 |[],_::_,_,h=>by cases h
 |[_],_,h,_=>by simp at h
 |[_,_],_,h,_=>by simp at h
 |a::b::c::cs,[],_,h=>by cases h
 |a::b::c::cs,o::l,hm,h=>by
  have h':bG ((a:Int),(b:Int),(c:Int))::(opsL cs).map bG=bG o::l.map bG:=h;obtain⟨h1,h2⟩:=yP h';have e1:(a:Int)=o.1:=yV (fun x:aG=>x.1) h1
  have e2:(b:Int)=o.2.1:=yV (fun x:aG=>x.2.1) h1
  unfold q3;rw[← e1,← e2,af1 (by simp only[List.length_cons] at hm;omega) h2]
  simp
def mq (nm:List Nat)(lc:List aG)(d:bL):Bool:=match d.1 with
 |1=>cond d.2.2.2.1 false (cond (gH d.2.1 nm) (q3 d.2.2.2.2 lc) false)
 |_=>false
theorem age {nm:List Nat}(hb:∀x∈nm,x < 256){lc:List aG}{p o:Nat}{d:bL}(hd:jd p o=some d)(h:dO (ag nm) lc d=true):mq nm lc d=true:=by
 obtain⟨h1,h2,h3,h4⟩:=lv h;obtain⟨r1,_,_,r4⟩:=eF hd;unfold mq;rw[h1,h2,Iu r4 hb h3,af1 r1 h4,uG];rfl
def fq (nm:List Nat)(lc:List aG)(d:bL):Bool:=cond (mq nm lc d) (kI (ag nm) lc d) false
theorem anC {nm:List Nat}(hb:∀x∈nm,x < 256){lc:List aG}{p o:Nat}{d:bL}(hd:jd p o=some d)(h:kI (ag nm) lc d=true):fq nm lc d=true:=by
 unfold fq;rw[age hb hd (kH h),h];rfl
def anA (f:bL→Bool):Nat→List bL→Option Nat
 |_,[]=>none
 |o,d::l=>cond (f d) (some o) (anA f (o+1) l)
def anB (f:bL→Bool):Nat→List (List bL)→Option Nat
 |_,[]=>none
 |o,r::l=>match anA f o r with
  |some x=>some x
  |none=>anB f (o+16) l
def anz (f:bL→Bool):Nat→List (List (List bL))→Option (Nat×Nat)
 |_,[]=>none
 |p,r::l=>match anB f 0 r with
  |some x=>some (p,x)
  |none=>anz f (p+1) l
def okI (nm:List Nat)(l:List aG):Bool:=cond (gV nm fe) (cond (Nat.ble l.length 3) (l.all aP) false) false
def ahQ (o:aG):Bool:=!(decide (o.1=6)) || decide (0≤o.2.2)
def agI (nm:List Nat)(l:List aG):Option (Option (Nat×Nat×bL)):=cond (okI nm l) (cond (l.all ahQ && inT nm l) (match anz (fq nm l) 0 DF with
 |some x=>match jd x.1 x.2 with
  |some d=>cond (fq nm l d && (Nat.ble x.1 6 && Nat.blt x.2 256)) (cond (allT (fun p o d'=>cond (fq nm l d') (Nat.beq p x.1 && Nat.beq o x.2) true) 0 DF) (some (some (x.1,x.2,d))) none) none
  |none=>none
 |none=>cond (allT (fun _ _ d=>!(mq nm l d)) 0 DF) (some none) none) none) none
theorem aia {nm:List Nat}{l:List aG}(h:okI nm l=true):nm∈fe∧pR (ag nm) l=0∧l.length≤3∧∀o∈l,aP o=true:=by
 unfold okI at h
 cases h1:gV nm fe with
 |false=>rw[h1] at h;cases h
 |true=>
 cases h2:Nat.ble l.length 3 with
 |false=>rw[h1,h2] at h;cases h
 |true=>
 rw[h1,h2] at h;have h:l.all aP=true:=h;have h2:=zk h2;have hm:=DY h1;refine⟨hm,?_,h2,zY.1 h⟩;have hk:jI (ag nm)=true:=xY.2 ⟨nm,hm,zC rfl⟩;unfold pR;rw[hk,h,za zx,za zy,za zx]
theorem LF {o:aG}(h:aP o=true):B64 o:=by
 obtain⟨k,r,hk,hr,e1,e2,_,h1,h2,_⟩:=qg h;unfold B64;rw[D6,En];omega
def opsV:List AV→Option (List aG)
 |[]=>some []
 | .int .i64 a:: .int .i64 b:: .int .i64 c::l=>(opsV l).map ((a,b,c):: ·)
 |_=>none
theorem R7 {ρ:Env}:∀{vs:List AV} {l:List aG},opsV vs=some l→aH ρ vs=dD l∧vs.length=l.length * 3
 |[],l,h=>by
  obtain rfl:=zq h;exact⟨rfl,rfl⟩
 |v::vs,l,h=>by
  unfold opsV at h;split at h
  ·rename_i e;cases e
  ·rename_i a b c r e;obtain⟨m,hm,rfl⟩:=zi.1 h;have hlen:r.length < (v::vs).length:=by rw[e];simp only[List.length_cons];omega
   obtain⟨h1,h2⟩:=R7 (ρ:=ρ) hm;rw[e];refine⟨?_,by simp only[List.length_cons,h2];omega⟩
   simp only[aH,cv,h1];rfl
  ·cases h
 termination_by vs=>vs.length
def uA:aj:=fun g args W=>cond (Nat.beq g 58) (match args with
 |[.agg [.str nm,s]]=>match lg W.bl 3 s with
  |some (_,vs)=>match opsV vs with
   |some l=>match agI nm l with
    |some r=>cond (VN bE W.gl) (some (match r with
     |some (p,o,d)=>(.tuple [.agg [.int .i64 (.ofNat p),.int .u8 (.ofNat o),.str d.2.1,opS W.nx d.2.2.2.2,.str d.2.2.1,.bool d.2.2.2.1],.int .i64 (.ofNat 0)],⟨W.nx+1,W.bl,W.az,W.gl⟩)
     |none=>(.tuple [.agg [.int .i64 (.ofNat 0),.int .u8 (.ofNat 0),.str [],.bT,.str [],.bool false],.int .i64 (.ofNat 11)],W))) none
    |none=>none
   |none=>none
  |none=>none
 |_=>none) none
theorem aan:ai Tryz.prog uA:=fun g args W v W' h=>by
 unfold uA at h
 cases hg:Nat.beq g 58 with
 |false=>rw[hg] at h;cases h
 |true=>
 rw[hg] at h;obtain rfl:=(beq_iff _ _).1 hg;simp only[cond_true] at h;split at h
 case h_2=>cases h
 case h_1 nm s=>
 split at h
 case h_2=>cases h
 case h_1 m vs hr=>
 split at h
 case h_2=>cases h
 case h_1 l hl=>
 split at h
 case h_2=>cases h
 case h_1 r hp=>
 cases hgl:VN bE W.gl with
 |false=>rw[hgl] at h;cases h
 |true=>
 rw[hgl] at h;have h:=zq h;have hgl:=rY hgl;unfold agI at hp
 cases hok:okI nm l with
 |false=>rw[hok] at hp;cases hp
 |true=>
 rw[hok] at hp
 cases hin:l.all ahQ && inT nm l with
 |false=>rw[hin] at hp;cases hp
 |true=>
 rw[hin] at hp;simp only[cond_true] at hp;rw[xk] at hin
 have hpos:∀o∈l,o.1=6→0≤o.2.2:=fun o ho h6=>by
  have:=zY.1 hin.1 o ho;unfold ahQ at this;rw[zC h6] at this
  simpa using this
 obtain⟨hnm,aqW,hl3,hval⟩:=aia hok;have hb256:=MM hnm;refine⟨⟨_,Tryz.func58,zx,zz⟩,?_⟩
 obtain⟨hnx,ZU,hbl,key⟩:W.nx≤W'.nx∧W'.az=W.az∧W'.bl=W.bl∧∀w0 ρ w,aJ w0 ρ W w→Calls Tryz.prog 58 (aH ρ [.agg [.str nm,s]]).toArray w fun e w'=>∃ρ',e= .returned (cv ρ' v)∧Post w0 ρ W w ρ' W' w'∧v.ok W'.nx:=by
  have call:∀w0 ρ w,aJ w0 ρ W w→∃A c,Calls Tryz.prog 58 (aH ρ [.agg [.str nm,s]]).toArray w fun e w'=>∃code E,e= .returned (.tuple #[E,.int .i64 code])∧(code≠0→E= .agg #[.int .i64 0,.int .u8 0,.string ⟨#[]⟩,.slice none 0 0,.string ⟨#[]⟩,.bool false])∧Rk (ag nm) l code∧(code=0→∃x,E=kU x∧dF w.heap.size w' x∧x.1.1≤6∧kI (ag nm) l x.2.1=true)∧Below w.heap.size w w':=fun w0 ρ w hW=>by
   obtain⟨A,c,hsv,hlen,hrd,_⟩:=jr (fun b k hb=>⟨(hW.ok b k hb).2.1,hW.rep b k hb⟩) hr
   obtain⟨e1,e2⟩:=R7 (ρ:=ρ) hl;rw[e1] at hrd
   have ea:(aH ρ [.agg [.str nm,s]]).toArray=#[.agg #[.string (ag nm),.slice A m c]]:=by
    simp only[aH,cv,hsv]
   have hG:eT w:=by
    have:=hW.QC;rw[← hgl] at this;exact this
   rw[ea];exact⟨A,c,Ie nm hnm A l m c w _ hG zy hl3 (fun o ho=>LF (hval o ho)) hrd aqW fun V hV=>EX (abe hin.2 fun o ho=>⟨hval o ho,hpos o ho⟩) A m c V _ zy hl3 (hG.after hV) (hrd.after hV)⟩
  split at hp
  ·rename_i x hx;split at hp
   case h_2=>cases hp
   case h_1 d hd=>
   cases hf0:fq nm l d && (Nat.ble x.1 6 && Nat.blt x.2 256) with
   |false=>rw[hf0] at hp;cases hp
   |true=>
   cases hall:allT (fun p o d'=>cond (fq nm l d') (Nat.beq p x.1 && Nat.beq o x.2) true) 0 DF with
   |false=>rw[hf0,hall] at hp;cases hp
   |true=>
   rw[hf0,hall] at hp;obtain rfl:=zq hp;simp only[Bool.and_eq_true] at hf0;have hf:=hf0.1;have hx6:=zk hf0.2.1;have hx256:=aK hf0.2.2;obtain⟨rfl,rfl⟩:=zm h;refine⟨yY _,rfl,rfl,fun w0 ρ w hW=>?_⟩
   obtain⟨A,c,hc⟩:=call w0 ρ w hW;refine hc.mono ?_;rintro e w' ⟨code,E,rfl,_,hF,hX,hb⟩
   have hfit:kI (ag nm) l d=true:=by
    unfold fq at hf
    cases hm:mq nm l d with
    |false=>rw[hm] at hf;cases hf
    |true=>rw[hm] at hf;exact hf
   obtain rfl:code=0:=by
    rcases hF with⟨h,_⟩|⟨_,_,h⟩|⟨_,h⟩
    ·exact h
    ·rw[h x.1 x.2 d hx6 hx256 hd] at hfit
     cases hfit
    ·have:=h x.1 x.2 d hx6 hx256 hd;rw[kH hfit] at this
     cases this
   obtain⟨y,rfl,hy,_,hyf⟩:=hX rfl;obtain⟨⟨p',o'⟩,d',A9,c9⟩:=y;have hq:=dL hall hy.d;dsimp only at hq hyf;rw[anC hb256 hy.d hyf] at hq;simp only[cond_true,Bool.and_eq_true] at hq;obtain rfl:=(beq_iff _ _).1 hq.1;obtain rfl:=(beq_iff _ _).1 hq.2;obtain rfl:d=d':=zq (hd.symm.trans hy.d);rcases hy.r with⟨h0,rfl,rfl⟩|⟨h0,q,n9,cur,rfl,hB,hh,h5,h6,h7,h8,h9⟩
   ·have hnil:d.2.2.2.2=[]:=by simpa [lN] using h0
    refine⟨ρ.up W.nx w.heap.size 0,?_,hW.up hb (zn _),?_⟩
    ·unfold kU di;simp only[cv,aH,hnil,opS];rfl
    ·rw[hnil];exact⟨⟨trivial,trivial,trivial,trivial,trivial,trivial,trivial⟩,trivial,trivial⟩
   ·refine⟨ρ.up W.nx q c9,?_,hW.up hb hB,?_⟩
    all_goals
     have hS:opS W.nx d.2.2.2.2= .slice W.nx 0 0 (d.2.2.2.2.length / 3) none:=by
      cases hc:d.2.2.2.2 with
      |nil=>exact absurd (by simp[lN,hc]) h0
      |cons a t=>rfl
     rw[hS]
    ·unfold kU di;simp only[cv,aH,Env.aM,Env.bX,Nat.sub_zero];rfl
    ·exact⟨⟨trivial,trivial,trivial,zS _,trivial,trivial,trivial⟩,trivial,trivial⟩
  ·rename_i hx
   cases hall:allT (fun _ _ d=>!(mq nm l d)) 0 DF with
   |false=>rw[hall] at hp;cases hp
   |true=>
   rw[hall] at hp;obtain rfl:=zq hp;obtain⟨rfl,rfl⟩:=zm h;refine⟨zn _,rfl,rfl,fun w0 ρ w hW=>?_⟩
   obtain⟨A,c,hc⟩:=call w0 ρ w hW;refine hc.mono ?_;rintro e w' ⟨code,E,rfl,hz,hF,_,hb⟩
   have no:∀p o d,jd p o=some d→dO (ag nm) l d=false:=fun p o d hd=>by
    cases hm:dO (ag nm) l d with
    |false=>rfl
    |true=>
     have:=dL hall hd;rw[age hb256 hd hm] at this
     cases this
   obtain rfl:code=11:=by
    rcases hF with⟨_,p,o,d,_,_,hd,hf⟩|⟨_,⟨p,o,d,_,_,hd,hf⟩,_⟩|⟨h,_⟩
    ·have:=kH hf;rw[no p o d hd] at this
     cases this
    ·rw[no p o d hd] at hf
     cases hf
    ·exact h
   obtain rfl:=hz zx;exact⟨ρ,rfl,hW.quiet ⟨hb.os,hb.tape,hb.output,hb.size,fun i hi _=>hb.block i hi⟩,⟨⟨trivial,trivial,trivial,trivial,trivial,trivial,trivial⟩,trivial,trivial⟩⟩
 exact⟨fun b hbm=>by rw[ZU];exact hbm,fun w0 ρ w _ hW=>key w0 ρ w hW⟩
def SW0:aj:=qX uA (qX (eH bE 170 cwM) SNm)
theorem abI:ai Tryz.prog SW0:=bN aan (bN aaV Fq)
def ap8 (s:List Nat):List Nat:=[1,2,3,8,9].flatMap fun k=>(List.range 9).flatMap fun r=>cond (gH (ky k r) s && !(gH s [])) [k,r,0] []
def ari (s:List Nat):Ex.gy:=match ap8 s with
 |[]=>([.str s],.bT,1,[])
 |l=>([.str s],.slice 0 0 0 (l.length / 3) none,1,[(0,.cells (opC l) 174 (some 3))])
def anX:List (List Nat):=[]::([1,2,3,8,9].flatMap fun k=>(List.range 9).flatMap fun r=>cond (gH (ky k r) []) [] (cond (Nat.beq k 8 && gH (ky k r) [67]) [] [ky k r]))
def aaE:{l:List Ex.gy // l=anX.map ari}:=⟨_,by conv=>rhs;reduce⟩
theorem aaD:(aaE.1.all (Ex.di (dx SW0) bE 177))=true:=by kernel_rfl
def SW1:aj:=qX (eH bE 177 (iQ bE aaE.1)) SW0
theorem Re:ai Tryz.prog SW1:=bN (fu (aT fB abI) bE _ _ aaD) abI
def apO (s:List Nat):AV:=(match (List.range 9).filter fun r=>!(gH (ky 3 r) []) && (gH (ky 3 r) s && gH (ky 4 r) s) with
 |r::_=>.tuple [.int .i64 (.ofNat r),.bool true]
 |[]=>.tuple [.int .i64 (.ofNat 0),.bool false])
def aaA:{l:List Ex.gy // l=(anX.filter fun s=>!(gH s [67])).map fun s=>([.str s],apO s,1,[])}:=⟨_,by conv=>rhs;reduce⟩
theorem aaz:(aaA.1.all (Ex.di (dx SW1) bE 176))=true:=by kernel_rfl
def aaG:{l:List Ex.gy // l=fe.map fun s=>([.str s],.bool true,1,[])}:=⟨_,by conv=>rhs;reduce⟩
theorem aaF:(aaG.1.all (Ex.di (dx SW1) bE 47))=true:=by kernel_rfl
def SW2:aj:=qX (eH bE 176 (iQ bE aaA.1)) (qX (eH bE 47 (iQ bE aaG.1)) SW1)
theorem abH:ai Tryz.prog SW2:=bN (fu (aT fB Re) bE _ _ aaz) (bN (fu (aT fB Re) bE _ _ aaF) Re)
def aaC:{l:List Ex.gy // l=([68,69,70,66]::fe).map fun s=>([.str s],.bool true,1,[])}:=⟨_,by conv=>rhs;reduce⟩
theorem aaB:(aaC.1.all (Ex.di (dx SW2) bE 88))=true:=by kernel_rfl
def SW3:aj:=qX (eH bE 88 (iQ bE aaC.1)) SW2
theorem abG:ai Tryz.prog SW3:=bN (fu (aT fB abH) bE _ _ aaB) abH
abbrev F6:=List (Nat×List Nat)
def C9 (k r:Nat)(sg:Bool):F6:=match k with
 |4=>[(4,[40]),(1,ky 4 r),(4,[41])]
 |5=>[(4,[40]),(1,ky 5 r),(4,[cond sg 45 43]),(2,[]),(4,[41])]
 |6=>[(2,[])]
 |7=>[(4,[40]),(2,[]),(4,[41])]
 |10=>[(4,[36]),(4,[cond sg 45 43]),(2,[])]
 |_=>[(1,ky k r)]
def alI (k r:Nat):Nat×List Nat×Bool:=match k with
 |4=>(2,ky 4 r,false)
 |5=>(3,ky 5 r,true)
 |6=>(4,[],true)
 |7=>(5,[],true)
 |10=>(4,[],true)
 |_=>(1,ky k r,false)
def kdL:List (Nat×Bool):=[(1,false),(2,false),(3,false),(4,false),(5,false),(5,true),(6,false),(7,false),(8,false),(9,false),(10,false),(10,true)]
def al9:{l:List (F6×Nat×List Nat×Bool) // l=kdL.flatMap fun x=>(List.range 9).flatMap fun r=>cond (match x.1 with|6=>Nat.beq r 0|7=>Nat.beq r 0|10=>Nat.beq r 0|k=>!(gH (ky k r) [])) [(C9 x.1 r x.2,alI x.1 r)] []}:=⟨_,by conv=>rhs;reduce⟩
def ama:=al9.1
def RF (ν:Nat→Int×Int):F6→List AV
 |[]=>[]
 |x::l=>.int .i64 (.ofNat x.1):: .str x.2:: .raw (.int .i64 (ν 0).1):: .raw (.int .i64 (ν 0).2)::RF (fun i=>ν (i+1)) l
theorem Pf (n:Nat):∀(ν:Nat→Int×Int) (l:F6),oks n (RF ν l)
 |_,[]=>trivial
 |_,_::l=>⟨trivial,trivial,trivial,trivial,Pf n _ l⟩
theorem I6:∀(ν:Nat→Int×Int) (l:F6),(RF ν l).length=l.length * 4
 |_,[]=>rfl
 |ν,_::l=>by simp only[RF,List.length_cons,I6 _ l];omega
def LP:List AV→Option F6
 |[]=>some []
 | .int .i64 (.ofNat k):: .str t:: .raw (.int .i64 _):: .raw (.int .i64 _)::l=>(LP l).map ((k,t):: ·)
 |_=>none
def FQ:List AV→Nat→Int×Int
 |_::_:: .raw (.int .i64 x):: .raw (.int .i64 y)::_,0=>(x,y)
 |_::_::_::_::l,i+1=>FQ l i
 |_,_=>(0,0)
theorem LM {ρ ρ':Env}:∀{vs:List AV} {sh:F6},LP vs=some sh→aH ρ' (RF (FQ vs) sh)=aH ρ vs∧vs.length=sh.length * 4
 |[],sh,h=>by
  obtain rfl:=zq h;exact⟨rfl,rfl⟩
 |v::vs,sh,h=>by
  unfold LP at h;split at h
  ·rename_i e;cases e
  ·rename_i k t x y l e;obtain⟨m,hm,rfl⟩:=zi.1 h;have hlen:l.length < (v::vs).length:=by rw[e];simp only[List.length_cons];omega
   obtain⟨h1,h2⟩:=LM (ρ:=ρ) (ρ':=ρ') hm;rw[e];refine⟨?_,by simp only[List.length_cons,h2];omega⟩
   simp only[RF,aH,cv,FQ];rw[show (fun i=>FQ l i)=FQ l from rfl,h1]
  ·cases h
 termination_by vs=>vs.length
def Uy:F6→F6→Bool
 |[],[]=>true
 |x::l,y::m=>Nat.beq x.1 y.1 && (gH x.2 y.2 && Uy l m)
 |_,_=>false
theorem RP:∀{l m:F6},Uy l m=true→l=m
 |[],[],_=>rfl
 |[],_::_,h=>by cases h
 |_::_,[],h=>by cases h
 |x::l,y::m,h=>by
  unfold Uy at h;simp only[Bool.and_eq_true] at h;obtain⟨a,b⟩:=x;obtain⟨c,d⟩:=y;rw[show a=c from (beq_iff _ _).1 h.1,show b=d from bJ h.2.1,RP h.2.2]
def ahh (ν:Nat→Int×Int)(sh:F6):AW:=⟨1,[(0,.cells (RF ν sh) 106 (some 4))],[],bE⟩
noncomputable def amb (ν:Nat→Int×Int)(x:F6×Nat×List Nat×Bool):Bool:=match dx SW3 165 [.slice 0 0 0 x.1.length none] (ahh ν x.1) with
 |some (.tuple [.agg [.int .i64 (.ofNat k),.str t,e],.int .i64 (.ofNat 0)],⟨nx,_,[],_⟩)=>Nat.beq k x.2.1 && (gH t x.2.2.1 && (match e with
  | .ptr q 0=>x.2.2.2 && (Nat.ble 1 q && Nat.blt q nx)
  | .bU=>!x.2.2.2
  |_=>false))
 |_=>false
theorem adA (ν:Nat→Int×Int):ama.all (amb ν)=true:=by kernel_rfl
theorem WY {w0:World}{ρ:Env}{W:AW}{w:World}(hW:aJ w0 ρ W w)(hgl:W.gl=bE){b:Nat}{vs:List AV}(hb:au b W.bl=some (.cells vs 106 (some 4))){sh:F6}(hs:LP vs=some sh):
 aJ w0 ⟨fun _=>ρ.blk b,fun _=>ρ.cap b,ρ.es⟩ (ahh (FQ vs) sh) w:=by
 have h0:∀c k,au c (ahh (FQ vs) sh).bl=some k→c=0∧k= .cells (RF (FQ vs) sh) 106 (some 4):=fun c k h=>by
  have h:au c [(0,aF.cells (RF (FQ vs) sh) 106 (some 4))]=some k:=h;by_cases e:c=0
  ·subst e;rw[aA] at h;exact⟨rfl,(zq h).symm⟩
  ·rw[aD _ _ (xq e)] at h
   cases h
 obtain⟨q1,q2,q3,q4⟩:=hW.ok b _ hb;obtain⟨e1,e2⟩:=LM (ρ:=ρ) (ρ':=⟨fun _=>ρ.blk b,fun _=>ρ.cap b,ρ.es⟩) hs
 refine⟨hW.below,fun c k h=>?_,fun c c' k k' h h' _=>by rw[(h0 c k h).1,(h0 c' k' h').1],fun c k h=>?_,by show [0].Nodup;simp,fun g l hg=>hW.gl g l (by rw[hgl];exact hg)⟩
 ·obtain⟨rfl,rfl⟩:=h0 c k h;exact⟨wy,Pf _ _ _,q3,q4⟩
 ·obtain⟨rfl,rfl⟩:=h0 c k h;obtain⟨n,cur,h1,h2,h3,h4,h5,h6⟩:=hW.rep b _ hb;exact⟨n,cur,h1,h2,h3,h4,by rw[I6,← e2,h5],by rw[e1];exact h6⟩
def RO (sh:F6):List (F6×Nat×List Nat×Bool)→Option (Nat×List Nat×Bool)
 |[]=>none
 |x::l=>cond (Uy x.1 sh) (some x.2) (RO sh l)
theorem GG {sh:F6}{r:Nat×List Nat×Bool}:∀{l:List (F6×Nat×List Nat×Bool)},RO sh l=some r→(sh,r)∈l
 |[],h=>by cases h
 |x::l,h=>by
  unfold RO at h
  cases hq:Uy x.1 sh with
  |true=>
   rw[hq] at h;obtain rfl:=zq h;rw[← RP hq];exact zb
  |false=>
   rw[hq] at h;exact ze _ (GG h)
def ah2:aj:=fun g args W=>cond (Nat.beq g 165) (match args with
 |[.slice b 0 0 n none]=>match au b W.bl with
  |some (.cells vs 106 (some 4))=>match LP vs with
   |some sh=>match RO sh ama with
    |some r=>cond (Nat.beq n sh.length && VN bE W.gl) (some (.tuple [.agg [.int .i64 (.ofNat r.1),.str r.2.1,cond r.2.2 (.ptr W.nx 0) .bU],.int .i64 (.ofNat 0)],⟨W.nx+1,W.bl,W.az,W.gl⟩)) none
    |none=>none
   |none=>none
  |_=>none
 |_=>none) none
theorem adz:ai Tryz.prog ah2:=fun g args W v W' h=>by
 unfold ah2 at h
 cases hg:Nat.beq g 165 with
 |false=>rw[hg] at h;cases h
 |true=>
 rw[hg] at h;obtain rfl:=(beq_iff _ _).1 hg;simp only[cond_true] at h;split at h
 case h_2=>cases h
 case h_1 b n=>
 split at h
 case h_2=>cases h
 case h_1 vs hb=>
 split at h
 case h_2=>cases h
 case h_1 sh hs=>
 split at h
 case h_2=>cases h
 case h_1 r hr=>
 cases hc:Nat.beq n sh.length && VN bE W.gl with
 |false=>rw[hc] at h;cases h
 |true=>
 rw[hc] at h;simp only[Bool.and_eq_true] at hc;obtain rfl:=(beq_iff _ _).1 hc.1;have hgl:=rY hc.2;obtain⟨rfl,rfl⟩:=zm (zq h);refine⟨⟨_,Tryz.func165,zx,zz⟩,fun _ hb=>hb,fun w0 ρ w _ hW=>?_⟩
 have hB:=zY.1 (adA (FQ vs)) _ (GG hr);unfold amb at hB;split at hB
 case h_2=>cases hB
 case h_1 k t e nx bl gl hrun=>
 simp only[Bool.and_eq_true] at hB;obtain⟨hk,ht,he⟩:=hB;obtain⟨_,_,q3⟩:=aT fB abG _ _ _ _ _ hrun;have hR:=WY hW hgl.symm hb hs;have hcall:=q3 w0 _ w ⟨wy,trivial⟩ hR;refine (show Calls Tryz.prog 165 (aH ρ [.slice b 0 0 sh.length none]).toArray w _ from hcall).mono ?_
 rintro e' w' ⟨gz,rfl,hP,hv⟩;have hbel:=hP.fZ rfl;rw[← (beq_iff _ _).1 hk,← bJ ht];split at he
 ·rename_i q;simp only[Bool.and_eq_true] at he;have h1:=zk he.2.1;have h2:=aK he.2.2
  have hq:w.heap.size≤gz.blk q:=by
   rcases zP (gz.blk q) w.heap.size with hlt|hge
   ·obtain⟨_,hm,_⟩:=hP.fresh q h1 h2 hlt
    cases hm
   ·exact hge
  refine⟨ρ.up W.nx (gz.blk q) 0,?_,hW.up hbel hq,?_⟩
  ·rw[he.1];simp only[cv,aH,cond_true,Env.aM]
  ·rw[he.1];exact⟨⟨trivial,trivial,zS _,trivial⟩,trivial,trivial⟩
 ·simp only[Bool.not_eq_true'] at he;refine⟨ρ.up W.nx w.heap.size 0,?_,hW.up hbel (zn _),?_⟩
  ·rw[he];rfl
  ·rw[he];exact⟨⟨trivial,trivial,trivial,trivial⟩,trivial,trivial⟩
 ·cases he
def SPa:aj:=qX ah2 SW3
theorem abK:ai Tryz.prog SPa:=bN adz abG
def jnT:List F6→F6
 |[]=>[]
 |[a]=>a
 |a::l=>a++(4,[44])::jnT l
def uk (nm:List Nat)(l:WH):F6:=(1,nm)::jnT (l.map fun x=>C9 x.1 x.2.1 x.2.2)
def Zp (ν:Nat→Int×Int)(nm:List Nat)(l:WH):AW:=⟨2,[(0,.cells (RF ν (uk nm l++[(0,[])])) 106 (some 4)),(1,.cells [.slice 0 0 0 (uk nm l).length none,.str [],.str [],.bT,.bT] 62 none)],[],bE⟩
noncomputable def jA (ν:Nat→Int×Int)(x:Ri):Bool:=match dx SPa 17 [.ptr 1 0] (Zp ν x.1 x.2.1) with
 |some (.int .i64 (.ofNat 0),⟨nx,bl,_,_⟩)=>match au 1 bl with
  |some (.cells [_,.str [],op,ar,pa] _ none)=>o7 op && (o7 ar && o7 pa) && match dx SPa 8 [.agg [.str [],op,ar,pa]] ⟨nx,bl,[],bE⟩ with
   |some (.tuple [.int .i64 (.ofNat k),.bool true],⟨_,_,[],_⟩)=>Nat.beq k x.2.2
   |_=>false
  |_=>false
 |_=>false
end
