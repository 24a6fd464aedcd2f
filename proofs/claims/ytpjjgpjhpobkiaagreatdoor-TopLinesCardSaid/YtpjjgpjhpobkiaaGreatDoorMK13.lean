/- Parts of the proof of TopLines. -/
import Derived.Test.YtpjjgpjhpobkiaaGreatDoorMK4
import Derived.Test.YtpjjgpjhpobkiaaGreatDoorMMb
set_option maxHeartbeats 8000000
set_option maxRecDepth 100000
namespace Go.Proofs.YtpjjgpjhpobkiaaGreatDoor
section
open Go.RowKit Ex
def ItQ (p:Nat)(V:List Value)(k m:Nat):Prop:=
 (k=4∧((p < 5∧V.length=(aO p).length)∨(5≤p∧V.length=(aO p).length)∨(5≤p∧V.length=(aO p).length+1∧∃z,V[(aO p).length]? =some (.int .u8 z)∧0≤z∧z < 256)∨(p < 5∧∃(o:Nat) (d:bL),o < 256∧jd p o=some d∧d.1=1∧V[(aO p).length]? =some (.int .u8 (o:Int))∧Sht V d.2.2.1 ((aO p).length+1))))∨
 (k≠4∧p < 5∧∃(o:Nat) (d:bL),jd p o=some d∧V[(aO p).length]? =some (.int .u8 (o:Int))∧((d.1=0∧k=2∧m=1)∨(d.1=3∧k=3∧m=(aO p).length+1)))
def ItO (k m:Nat)(V:List Value)(bx:Nat)(A:Option Addr)(N c:Nat)(w:World)(e:Ending)(w':World):Prop:=
 (k=4∧e= .panicked DV∧Cg w w' bx A N c)∨(k≠4∧∃A' c',e= .returned (.agg #[.int .i64 (k:Int),.slice A' m c',.string ⟨#[]⟩,.slice none 0 0,.bool false])∧Rd w' (fun i=>w.heap.size≤i) A' (V.take m)∧w.grownBy w' (some bx))
theorem VB {w0:World}(hG:eT w0)(p k m:Nat)(hp:p≤6)(V:List Value)(hpre:∀(r z:Nat),(aO p)[r]? =some z→V[r]? =some (.int .u8 (z:Int)))(hQ:ItQ p V k m)(h1:∀u∈V,u.oneCell'=true)(A:Option Addr)(N c:Nat)(hN:V.length=N)(hm:(N:Int)≤1000)(hc:N≤c)(bx:Nat)(w:World)(q:Nat→Prop)
 (hb:Bk w bx 510 (dW A N c 0 (.slice none 0 0) (.int .i64 0) (.int .u8 0) (.string ⟨#[]⟩) (.slice none 0 0) (.string ⟨#[]⟩) (.bool false) 0 0)) (hbx:w0.heap.size≤bx) (hb0:Below w0.heap.size w0 w) (hr:Rd w0 q A V):
 Calls Tryz.prog 409 #[.pointer (some ⟨bx,0,none⟩)] w fun e w'=>ItO k m V bx A N c w e w':=by
 have HR:Hid (∀W,Below w0.heap.size w0 W→Rd W (fun i=>i < w0.heap.size) A V):=fun W hb=>(hr.mono (q:=fun i=>i < w0.heap.size) fun i hi _=>hi).below hb fun i _ hi=>hi
 have CP:Hid (∀W (l:List Nat) (AP:Option Addr) (cP:Nat),Below w0.heap.size w0 W→l∈rH→W.ownsRow w0.heap.size 5 1 (.slice AP l.length cP) l.length (Ui l)→(l=[]→AP=none∧cP=0)→Calls Tryz.prog 431 #[.slice AP l.length cP] W fun e w'=>e= .returned (.tuple #[.int .i64 (Jv l:Nat),.bool true])∧Below W.heap.size W w'):=fun W l AP cP hb hl ho hn=>DD hG hb hl ho hn
 have CT:Hid (∀(a:Nat) (pv e0 e1 e2 e3 e4 e5:Value) (d n z:Int) W,Below w0.heap.size w0 W→Bk W bx 510 (dW A N c a pv e0 e1 e2 e3 e4 e5 d n)→V[a]? =some (.int .u8 z)→Calls Tryz.prog 433 #[.pointer (some ⟨bx,0,none⟩)] W fun e w'=>e= .returned (.int .u8 z)∧Bk w' bx 510 (dW A N c (a+1) pv e0 e1 e2 e3 e4 e5 d n)∧W.grownBy w' (some bx)):=fun a pv e0 e1 e2 e3 e4 e5 d n z W hb hk hz=>qi bx A N c a pv e0 e1 e2 e3 e4 e5 d n V z W _ hk (HR.out W hb) (fun i hi=>zy) hz hN hm
 have CE:Hid (∀(l:List Nat) (a a2:Nat) (pv e0 e1 e2 e3 e4 e5:Value) (d n d2 n2:Int) W,(∀x∈l,x < 128)→Below w0.heap.size w0 W→Bk W bx 510 (dW A N c a pv e0 e1 e2 e3 e4 e5 d n)→Ext V l a d n a2 d2 n2→Calls Tryz.prog 432 #[.pointer (some ⟨bx,0,none⟩),.string (ag l)] W fun e w'=>e= .returned (.tuple #[])∧Bk w' bx 510 (dW A N c a2 pv e0 e1 e2 e3 e4 e5 d2 n2)∧W.grownBy w' (some bx)):=fun l a a2 pv e0 e1 e2 e3 e4 e5 d n d2 n2 W hl hb hk hE=>Ig l hl bx A N c a pv e0 e1 e2 e3 e4 e5 d n V a2 d2 n2 W _ hk (HR.out W hb) (fun i hi=>zy) hN hm hE
 have CR:Hid (∀(k a:Nat) (pv e0 e1 e2 e3 e4 e5:Value) (d n:Int) W,Below w0.heap.size w0 W→Bk W bx 510 (dW A N c a pv e0 e1 e2 e3 e4 e5 d n)→1≤k→k≤N→Calls Tryz.prog 408 #[.pointer (some ⟨bx,0,none⟩),.int .i64 (k:Int)] W fun e w'=>∃A' c',e= .returned (.slice A' k c')∧w'.ownsRow W.heap.size 5 1 (.slice A' k c') k (V.take k)∧Below W.heap.size W w'):=fun k a pv e0 e1 e2 e3 e4 e5 d n W hb hk h2 h3=>Jp bx A N c k a pv e0 e1 e2 e3 e4 e5 d n V W _ hk (HR.out W hb) h1 hN hm h2 h3 hc
 have CA2:Hid (∀(p o:Nat) (d:bL) W,jd p o=some d→Below w0.heap.size w0 W→Calls Tryz.prog 248 #[.int .i64 (p:Int),.int .u8 (o:Int)] W fun e w'=>∃(p' o':Int) (nm ex:ByteArray) (al:Bool) (A:Option Addr) (n c:Nat),e= .returned (.tuple #[.agg #[.int .i64 p',.int .u8 o',.string nm,.slice A n c,.string ex,.bool al],.int .i64 (d.1:Int)])∧Below W.heap.size W w'):=fun p o d W hd hb=>Ff hd W (hG.after hb)
 have CN:Hid (∀(pv e0 e1 e2 e3 e4 e5:Value) (d n:Int) W,Bk W bx 510 (dW A N c N pv e0 e1 e2 e3 e4 e5 d n)→Calls Tryz.prog 433 #[.pointer (some ⟨bx,0,none⟩)] W fun e w'=>e= .panicked DV∧Cg W w' bx A N c):=fun pv e0 e1 e2 e3 e4 e5 d n W hk=>LU bx A N c pv e0 e1 e2 e3 e4 e5 d n W hk
 have CX:Hid (∀(l:List Nat) (a:Nat) (pv e0 e1 e2 e3 e4 e5:Value) (d n:Int) W,(∀x∈l,x < 128)→Below w0.heap.size w0 W→Bk W bx 510 (dW A N c a pv e0 e1 e2 e3 e4 e5 d n)→Sht V l a→Calls Tryz.prog 432 #[.pointer (some ⟨bx,0,none⟩),.string (ag l)] W fun e w'=>e= .panicked DV∧Cg W w' bx A N c):=fun l a pv e0 e1 e2 e3 e4 e5 d n W hl hb hk hE=>VW l hl bx A N c a pv e0 e1 e2 e3 e4 e5 d n V W _ hk (HR.out W hb) (fun i hi=>zy) hN hm hE
 have CA1:Hid (∀(o:Nat) (d:bL) W,jd p o=some d→d.1=1→Below w0.heap.size w0 W→Calls Tryz.prog 248 #[.int .i64 (p:Int),.int .u8 (o:Int)] W fun e w'=>∃A c,e= .returned (.tuple #[.agg #[.int .i64 (p:Int),.int .u8 (o:Int),.string (ag d.2.1),.slice A (d.2.2.2.2.length / 3) c,.string (ag d.2.2.1),.bool d.2.2.2.1],.int .i64 1])∧gF W.heap.size w' A c (lN d)∧Below W.heap.size W w'):=fun o d W hd hk hb=>Q5 hd hk W (hG.after hb)
 have H0:Hid (Fv w (w.alloc (.cells #[.int .i64 0,.slice none 0 0,.string ⟨#[]⟩,.slice none 0 0,.bool false] 30)) bx w.heap.size A N c 0 [] none 0 (.int .i64 0) (.int .u8 0) (.string ⟨#[]⟩) (.slice none 0 0) (.string ⟨#[]⟩) (.bool false) 0 0):=⟨hb.alloc _,yx _ _ _ _,fun _=>⟨rfl,rfl⟩,Bk.new w _ _,wG w _ _,zn _⟩
 have IQ:=zo (show w.heap.size≠bx from fun e=>by have:=hb.lt;omega)
 have HP:=zo (zM hpre hp);have HQ:=zo hQ;have HB0:=zo (zM hb0 hbx);have HN:=zo hN;clear hb hbx hb0 hr h1 hN hc hpre hp hQ hG;go_enter Tryz.func409,Tryz.ntmps409;go_wp2;obtain⟨rb,hrb⟩:∃b,w.heap.size=b:=⟨_,rfl⟩;rw[hrb] at H0 IQ ⊢;generalize w.alloc (.cells #[.int .i64 0,.slice none 0 0,.string ⟨#[]⟩,.slice none 0 0,.bool false] 30)=W0 at H0 ⊢
 go_loopw [3] (fun _ wr=>∃(r:Nat) (AP:Option Addr) (cP:Nat),r≤(aO p).length∧Hid (Fv w wr bx rb A N c r ((aO p).take r) AP cP (.int .i64 0) (.int .u8 0) (.string ⟨#[]⟩) (.slice none 0 0) (.string ⟨#[]⟩) (.bool false) 0 0)) (fun _ wr=>10 - (match wr.cell? ⟨bx,1,none⟩ with|some v=>(intOf v).toNat|none=>0))
 case atStart=>exact⟨0,none,0,zF _,H0.out⟩
 case round=>
  obtain⟨r,AP,cP,hr,hw⟩:=hrel;clear H0;have uw:=hw.below HB0.1 HB0.2;have hrw:wr.cell? ⟨bx,1,none⟩=some (.int .i64 (r:Int)):=hw.bk.cell 1 rfl;by_cases hlt:r < (aO p).length
  ·obtain⟨z,hz⟩:∃z,(aO p)[r]? =some z:=⟨_,zg hlt⟩;obtain⟨hmem,hp5,amG,dd,hdd,hd2⟩:=Xf HP.2 hz;have hVz:=HP.1 r z hz
   have htk:(aO p).take (r+1)=(aO p).take r++[z]:=by
    rw[xh,hz];rfl
   obtain⟨pf,hpf⟩:∃pf,(aO p).take r=pf:=⟨_,rfl⟩
   have hpl:pf.length=r:=by
    rw[← hpf,zJ];omega
   rw[hpf] at hw hmem hp5 hdd htk;obtain⟨pg,qP⟩:∃pg,Jv pf=pg:=⟨_,rfl⟩;rw[qP] at hp5 hdd;have Fw:=CP.out wr pf AP cP uw hmem (own_base' hw.own (by have:=HB0.1.size;omega)) hw.nil
   rw[qP] at Fw;have Fw:=zo Fw;have Lt:=zo (fun W hb hk=>CT.out r (.slice AP pf.length cP) (.int .i64 0) (.int .u8 0) (.string ⟨#[]⟩) (.slice none 0 0) (.string ⟨#[]⟩) (.bool false) 0 0 (z:Int) W hb hk hVz)
   have Fx:=zo (fun W hb=>CA2.out pg z dd W hdd hb)
   have h5:¬((5:Int)≤(pg:Int)):=zy;have h5d:decide ((5:Int)≤(pg:Int))=false:=zN h5;have HTK:=zo (zM htk hpl);have QA:=zo hlt;have HD2:=zo hd2;have y2:=hw.bk.cell 2 rfl;clear hz hmem hdd hVz htk hpf qP CA1 CN CX CE CR uw hd2;obtain⟨np,FH⟩:∃np,pf.length=np:=⟨_,rfl⟩;rw[FH] at y2;have Lf:Hid (Calls Tryz.prog 431 #[.slice AP np cP] wr fun e w'=>e= .returned (.tuple #[.int .i64 (pg:Int),.bool true])∧Below wr.heap.size wr w'):=FH ▸ Fw.out
   clear Fw;obtain⟨kd,hkd⟩:∃kd:Int,(dd.1:Int)=kd:=⟨_,rfl⟩;rw[hkd] at Fx;have hk2:kd=2:=by rw[← hkd,HD2.out];rfl
   subst hk2
   go_upto_region 9 with (first
    |(go_at_call 431;refine Lf.mono ?_;rintro e w2 ⟨rfl,hb⟩;have H2:=zo (hw.after hb);clear hb)
    |(go_at_call 433;refine (Lt.out _ (H2.below HB0.1 HB0.2) H2.bk).mono ?_;rintro e w3 ⟨rfl,hb3,hg3⟩;have H3:=zo (H2.write IQ.out hb3 hg3);clear hb3 hg3)
    |(go_at_call 248;refine (Fx.out _ (H3.below HB0.1 HB0.2)).mono ?_;rintro e w4 ⟨p',o',FR,Kh,al',A9,n9,c9,rfl,hb⟩;have H4:=zo ((H3.after hb).after ((zh w4.heap.size w4).alloc (zn _) (.cells #[.int .i64 p',.int .u8 o',.string FR,.slice A9 n9 c9,.string Kh,.bool al'] 133)));clear hb))
   obtain⟨b7,SV⟩:∃b,w4.heap.size=b:=⟨_,rfl⟩;rw[SV];generalize (w4.alloc (.cells #[.int .i64 p',.int .u8 o',.string FR,.slice A9 n9 c9,.string Kh,.bool al'] 133))=W4 at H4 ⊢;clear SV y2 Lf Lt Fx hw;have H5:=zo (H4.after ((zh W4.heap.size W4).alloc (zn _) (.cells #[.int .u8 (z:Int)] 5)))
   have x2:W4.cell? ⟨bx,2,none⟩=some (.slice AP np cP):=by
    have:=H4.bk.cell 2 rfl;rw[FH] at this;exact this
   have hrd:=Rd.new W4 #[.int .u8 (z:Int)] 5 (p:=fun _=>True) trivial
   have hown1:=H5.own;rw[FH] at hown1
   have aqB:np≤10:=by
    have h1:=HTK.2;have h2:=QA.out;have h3:(aO p).length≤2:=mo p;omega
   have HS5:=zo H5.gr.size
   have aks:Hid (∀(W':World) (g' c':Nat),W'.ownsRow w.heap.size 5 1 (.slice (some ⟨g',0,none⟩) (np+1) c') (np+1) (Ui pf++[.int .u8 (z:Int)])→(W4.alloc (.cells #[.int .u8 (z:Int)] 5)).grownBy W' (Value.slice AP np cP).ownBlock→Bk W' bx 510 (dW A N c (r+1) (.slice AP np cP) (.int .i64 0) (.int .u8 0) (.string ⟨#[]⟩) (.slice none 0 0) (.string ⟨#[]⟩) (.bool false) 0 0)∧Fv w (W'.setCell ⟨bx,2,none⟩ (.slice (some ⟨g',0,none⟩) (np+1) c')) bx rb A N c (r+1) (pf++[z]) (some ⟨g',0,none⟩) c' (.int .i64 0) (.int .u8 0) (.string ⟨#[]⟩) (.slice none 0 0) (.string ⟨#[]⟩) (.bool false) 0 0):=by
    have h5:=H5.out;subst FH;exact zo fun W' g' c' ho hg=>h5.app IQ.out ho hg
   clear FH
   go_wp2_with (at_builtin;(refine bu iU rfl (.tmp 41) (.tmp 43) rfl w.heap.size _ np (Ui pf) (fun _=>True) (some ⟨W4.heap.size,0,none⟩) 1 1 _ rfl rfl hown1 rfl hrd (by simp[Value.oneCell']) (by simp only[maxLen];omega) zy HS5.out ?_;intro v' w5 hown2 hg1 QB hz1;obtain⟨g',c',rfl⟩:=MH hown2;have H6:=zo (aks.out _ _ _ hown2 hg1);have u2:=H6.1.cell 2 rfl;have f2:=H6.1.frozen 2;clear hown2 hg1 QB hz1))
   have H7:=zo H6.2;rw[← HTK.1] at H7;have hrn:(w5.setCell ⟨bx,2,none⟩ (.slice (some ⟨g',0,none⟩) (np+1) c')).cell? ⟨bx,1,none⟩=some (.int .i64 ((r+1:Nat):Int)):=H7.bk.cell 1 rfl
   have hr2:r+1≤2:=by
    have h2:=QA.out;have h3:(aO p).length≤2:=mo p;omega
   go_roundw
   case rel=>exact⟨r+1,_,_,QA.out,H7.out⟩
   case measure=>rw[hrn,hrw];show 10 - ((r+1:Nat):Int).toNat < 10 - ((r:Nat):Int).toNat;omega
  ·have hre:r=(aO p).length:=zy;subst hre;rw[yH] at hw;obtain⟨hmem,qP⟩:=Rs HP.2;have Fw:=CP.out wr (aO p) AP cP uw hmem (own_base' hw.own (by have:=HB0.1.size;omega)) hw.nil
   rw[qP] at Fw;have Fw:=zo Fw;obtain⟨np,FH⟩:∃np,(aO p).length=np:=⟨_,rfl⟩;have y2:=hw.bk.cell 2 rfl;rw[FH] at y2;have Lf:Hid (Calls Tryz.prog 431 #[.slice AP np cP] wr fun e w'=>e= .returned (.tuple #[.int .i64 (p:Int),.bool true])∧Below wr.heap.size wr w'):=FH ▸ Fw
   clear Fw qP hmem hr;have agu:(⟨#[100]⟩:ByteArray)=ag [100]:=rfl
   have anv:∀x∈[100],x < 128:=by
    intro x hx;simp at hx;omega
   rcases HQ.out with⟨rfl,⟨h5,hl⟩|⟨h5,hl⟩|⟨h5,hl,z,hz,h0,h1⟩|⟨h5,o,d,ho,hd,hk,hV,hS⟩⟩|⟨hk4,h5,o,d,hd,hV,hk⟩
   ·have h5d:decide ((5:Int)≤(p:Int))=false:=zN zy;have CNx:=zo (fun W hk=>CN.out (.slice AP N cP) (.int .i64 0) (.int .u8 0) (.string ⟨#[]⟩) (.slice none 0 0) (.string ⟨#[]⟩) (.bool false) 0 0 W hk)
    have HL:Hid ((aO p).length=N):=zo (by rw[← hl,HN.out])
    clear CP CT CE CN CX CA1 CA2 CR uw
    go_wp2_with (first
     |(go_at_call 431;refine Lf.mono ?_;rintro e w2 ⟨rfl,hb⟩;have H2:=zo (hw.after hb);clear hb)
     |(go_at_call 433;refine (CNx.out _ (by have:=H2.bk;rw[HL.out] at this;exact this)).mono ?_;rintro e w3 ⟨rfl,hD⟩;have HD:=zo (hD.trans H2.gr);clear hD))
    exact⟨rfl,.inl ⟨rfl,rfl,HD.out⟩⟩
   ·have h5d:decide ((5:Int)≤(p:Int))=true:=zC zy;have CXx:=zo (fun W hb hk=>CX.out [100] (aO p).length (.slice AP (aO p).length cP) (.int .i64 0) (.int .u8 0) (.string ⟨#[]⟩) (.slice none 0 0) (.string ⟨#[]⟩) (.bool false) 0 0 W anv hb hk (.inl ⟨hl,.inl rfl⟩))
    clear CP CT CE CN CX CA1 CA2 CR uw
    go_wp2_with (first
     |(go_at_call 431;refine Lf.mono ?_;rintro e w2 ⟨rfl,hb⟩;have H2:=zo (hw.after hb);clear hb)
     |(go_at_call 432;refine (CXx.out _ (H2.below HB0.1 HB0.2) H2.bk).mono ?_;rintro e w3 ⟨rfl,hD⟩;have HD:=zo (hD.trans H2.gr);clear hD))
    exact⟨rfl,.inl ⟨rfl,rfl,HD.out⟩⟩
   ·have h5d:decide ((5:Int)≤(p:Int))=true:=zC zy;have CEx:=zo (fun W hb hk=>CE.out [100] (aO p).length ((aO p).length+1) (.slice AP (aO p).length cP) (.int .i64 0) (.int .u8 0) (.string ⟨#[]⟩) (.slice none 0 0) (.string ⟨#[]⟩) (.bool false) 0 0 (qo z) 0 W anv hb hk (.inl ⟨rfl,z,hz,h0,h1,rfl,rfl,rfl⟩))
    have CNx:=zo (fun W hk=>CN.out (.slice AP (aO p).length cP) (.int .i64 0) (.int .u8 0) (.string ⟨#[]⟩) (.slice none 0 0) (.string ⟨#[]⟩) (.bool false) (qo z) 0 W hk)
    have HL:Hid ((aO p).length+1=N):=zo (by rw[← hl,HN.out])
    clear CP CT CE CN CX CA1 CA2 CR uw hz
    go_wp2_with (first
     |(go_at_call 431;refine Lf.mono ?_;rintro e w2 ⟨rfl,hb⟩;have H2:=zo (hw.after hb);clear hb)
     |(go_at_call 432;(refine (CEx.out _ (H2.below HB0.1 HB0.2) H2.bk).mono ?_;rintro e w3 ⟨rfl,hb3,hg3⟩;have H3:=zo (H2.write IQ.out hb3 hg3);clear hb3 hg3))
     |(go_at_call 433;refine (CNx.out _ (by have:=H3.bk;rw[HL.out] at this;exact this)).mono ?_;rintro e w4 ⟨rfl,hD⟩;have HD:=zo (hD.trans H3.gr);clear hD))
    exact⟨rfl,.inl ⟨rfl,rfl,HD.out⟩⟩
   ·have h5d:decide ((5:Int)≤(p:Int))=false:=zN zy;have Lt:=zo (fun W hb hk=>CT.out (aO p).length (.slice AP (aO p).length cP) (.int .i64 0) (.int .u8 0) (.string ⟨#[]⟩) (.slice none 0 0) (.string ⟨#[]⟩) (.bool false) 0 0 (o:Int) W hb hk hV)
    have Fx:=zo (fun W hb=>CA1.out o d W hd hk hb)
    have CXx:=zo (fun e0 e1 e2 e3 e4 e5 W hb hq=>CX.out d.2.2.1 ((aO p).length+1) (.slice AP (aO p).length cP) e0 e1 e2 e3 e4 e5 0 0 W (aau (eF hd).2.2.1) hb hq hS)
    have HOK:=zo (zM hd (zM hk ho));clear CP CT CE CN CX CA1 CA2 CR uw hV hd hk ho hS
    go_upto_region 14 with (first
     |(go_at_call 431;refine Lf.mono ?_;rintro e w2 ⟨rfl,hb⟩;have H3:=zo (hw.after hb);clear hb)
     |(go_at_call 433;refine (Lt.out _ (H3.below HB0.1 HB0.2) H3.bk).mono ?_;rintro e w4 ⟨rfl,hb3,hg3⟩;have H4:=zo (H3.write IQ.out hb3 hg3);clear hb3 hg3)
     |(go_at_call 248;refine (Fx.out _ (H4.below HB0.1 HB0.2)).mono ?_;rintro e w5 ⟨A9,c9,rfl,hrow,hb⟩;have H5:=zo (H4.iZ (x:=((p,o),d,A9,c9)) (B:=w0.heap.size) hb ⟨HOK.1,HOK.2.1,HOK.2.2,hrow⟩ (H4.below HB0.1 HB0.2).size);clear hb hrow))
    obtain⟨b7,SV⟩:∃b,w5.heap.size=b:=⟨_,rfl⟩;rw[SV] at H5 ⊢;have H5:Hid (KY w0.heap.size w (w5.alloc (.cells #[.int .i64 (p:Int),.int .u8 (o:Int),.string (ag d.2.1),.slice A9 (d.2.2.2.2.length / 3) c9,.string (ag d.2.2.1),.bool d.2.2.2.1] 133)) bx rb b7 A N c ((aO p).length+1) (.slice AP (aO p).length cP) (.int .i64 0) (.int .u8 0) (.string ⟨#[]⟩) (.slice none 0 0) (.string ⟨#[]⟩) (.bool false) 0 0 ((p,o),d,A9,c9)):=H5;generalize w5.alloc (.cells #[.int .i64 (p:Int),.int .u8 (o:Int),.string (ag d.2.1),.slice A9 (d.2.2.2.2.length / 3) c9,.string (ag d.2.2.1),.bool d.2.2.2.1] 133)=W5 at H5 ⊢;clear SV;have z0:W5.cell? ⟨b7,0,none⟩=some (.int .i64 (p:Int)):=H5.iZ.cell 0 rfl;have z1:W5.cell? ⟨b7,1,none⟩=some (.int .u8 (o:Int)):=H5.iZ.cell 1 rfl;have z2:W5.cell? ⟨b7,2,none⟩=some (.string (ag d.2.1)):=H5.iZ.cell 2 rfl;have z3:W5.cell? ⟨b7,3,none⟩=some (.slice A9 (d.2.2.2.2.length / 3) c9):=H5.iZ.cell 3 rfl;have z4:W5.cell? ⟨b7,4,none⟩=some (.string (ag d.2.2.1)):=H5.iZ.cell 4 rfl;have z5:W5.cell? ⟨b7,5,none⟩=some (.bool d.2.2.2.1):=H5.iZ.cell 5 rfl
    go_wp2_with (first
     |(refine aN rfl 133 (.tmp 69) (.tmp 67) rfl bx 3 (di ((p,o),d,A9,c9)) rfl rfl 510 _ H5.bk rfl (by simp[dW,di]) (by simp[di,Value.oneCell']) ?_;intro w7 hb6 hg6;have H6:=zo (H5.write IQ.out (a':=(aO p).length+1) (e0':=.int .i64 (p:Int)) (e1':=.int .u8 (o:Int)) (e2':=.string (ag d.2.1)) (e3':=.slice A9 (d.2.2.2.2.length / 3) c9) (e4':=.string (ag d.2.2.1)) (e5':=.bool d.2.2.2.1) (d':=0) (n':=0) hb6 hg6);have z6:w7.cell? ⟨b7,4,none⟩=some (.string (ag d.2.2.1)):=H6.iZ.cell 4 rfl;clear hb6 hg6)
     |(go_at_call 432;(refine (CXx.out _ _ _ _ _ _ _ (H6.below HB0.1 HB0.2) H6.bk).mono ?_;rintro e w6 ⟨rfl,hD⟩;have HD:=zo (hD.trans H6.gr);clear hD)))
    exact⟨rfl,.inl ⟨rfl,rfl,HD.out⟩⟩
   ·have h5d:decide ((5:Int)≤(p:Int))=false:=zN zy;have Lt:=zo (fun W hb hk=>CT.out (aO p).length (.slice AP (aO p).length cP) (.int .i64 0) (.int .u8 0) (.string ⟨#[]⟩) (.slice none 0 0) (.string ⟨#[]⟩) (.bool false) 0 0 (o:Int) W hb hk hV)
    have hlt:(aO p).length < N:=by
     rw[← HN.out];exact (zf.1 hV).1
    obtain⟨kd,hkd⟩:∃kd:Int,(d.1:Int)=kd:=⟨_,rfl⟩;have Fx:=zo (fun W hb=>CA2.out p o d W hd hb)
    rw[hkd] at Fx;have CRx:=zo (fun k W hb hk h1 h2=>CR.out k ((aO p).length+1) (.slice AP (aO p).length cP) (.int .i64 0) (.int .u8 0) (.string ⟨#[]⟩) (.slice none 0 0) (.string ⟨#[]⟩) (.bool false) 0 0 W hb hk h1 h2)
    have HL:=zo hlt;clear CP CT CE CN CX CA1 CA2 CR uw hV hd hlt hk4 h5;rcases hk with⟨hd0,rfl,rfl⟩|⟨hd3,rfl,hmm⟩
    ·obtain rfl:kd=0:=zy;clear hkd
     go_upto_region 11 with (first
      |(go_at_call 431;refine Lf.mono ?_;rintro e w2 ⟨rfl,hb⟩;have H3:=zo (hw.after hb);clear hb)
      |(go_at_call 433;refine (Lt.out _ (H3.below HB0.1 HB0.2) H3.bk).mono ?_;rintro e w4 ⟨rfl,hb3,hg3⟩;have H4:=zo (H3.write IQ.out hb3 hg3);clear hb3 hg3)
      |(go_at_call 248;refine (Fx.out _ (H4.below HB0.1 HB0.2)).mono ?_;rintro e w5 ⟨p',o',FR,Kh,al',A9,n9,c9,rfl,hb⟩;have H5:=zo ((H4.after hb).after ((zh w5.heap.size w5).alloc (zn _) (.cells #[.int .i64 p',.int .u8 o',.string FR,.slice A9 n9 c9,.string Kh,.bool al'] 133)));clear hb))
     generalize (w5.alloc (.cells #[.int .i64 p',.int .u8 o',.string FR,.slice A9 n9 c9,.string Kh,.bool al'] 133))=W5 at H5 ⊢;have CRy:=zo (CRx.out 1 W5 (H5.below HB0.1 HB0.2) H5.bk (zn _) (by have:=HL.out;omega))
     clear CRx Lf Lt Fx hw H3 H4
     go_wp2_with (first
      |(go_at_call 408;refine CRy.mono ?_;rintro e w6 ⟨A6,c6,rfl,ho6,hb6⟩;have H6:=zo (H5.after hb6);have HO:=zo ho6;clear ho6 hb6)
      |(refine aN rfl 30 (.tmp 2) (.tmp 53) rfl rb 0 [.int .i64 2,.slice A6 1 c6,.string ⟨#[]⟩,.slice none 0 0,.bool false] rfl rfl 30 _ H6.res rfl zw (by simp[Value.oneCell']) ?_;intro w7 WS hg7;have HK7:=zo WS;have HG7:=zo hg7;clear WS hg7))
     have y0:=HK7.cell 0 rfl;have y1:=HK7.cell 1 rfl;have y2:=HK7.cell 2 rfl;have y3:=HK7.cell 3 rfl;have y4:=HK7.cell 4 rfl;refine xx (v:=.agg #[.int .i64 2,.slice A6 1 c6,.string ⟨#[]⟩,.slice none 0 0,.bool false]) (by simp[Act.put,results,Tryz.results409,go_sem,y0,y1,y2,y3,y4]) rfl (.inr ⟨zx,A6,c6,rfl,?_,Av H6.gr HG7.out (xL hrb)⟩)
     have hsz:=H5.gr.size;have hlr:=H5.res.lt;refine ((Rd.jf (p:=fun i=>i≠rb∧w.heap.size≤i) HO.out fun i h1 _=>?_).keep fun i h1 h2=>HG7.block i h1 fun e=>h2.1 (zq e)).mono fun _ _ h=>h.2
     have:W5.heap.size≤i:=h1;omega
    ·obtain rfl:kd=3:=zy;clear hkd
     go_upto_region 13 with (first
      |(go_at_call 431;refine Lf.mono ?_;rintro e w2 ⟨rfl,hb⟩;have H3:=zo (hw.after hb);clear hb)
      |(go_at_call 433;refine (Lt.out _ (H3.below HB0.1 HB0.2) H3.bk).mono ?_;rintro e w4 ⟨rfl,hb3,hg3⟩;have H4:=zo (H3.write IQ.out hb3 hg3);clear hb3 hg3)
      |(go_at_call 248;refine (Fx.out _ (H4.below HB0.1 HB0.2)).mono ?_;rintro e w5 ⟨p',o',FR,Kh,al',A9,n9,c9,rfl,hb⟩;have H5:=zo ((H4.after hb).after ((zh w5.heap.size w5).alloc (zn _) (.cells #[.int .i64 p',.int .u8 o',.string FR,.slice A9 n9 c9,.string Kh,.bool al'] 133)));clear hb))
     generalize (w5.alloc (.cells #[.int .i64 p',.int .u8 o',.string FR,.slice A9 n9 c9,.string Kh,.bool al'] 133))=W5 at H5 ⊢;clear Lf Lt Fx hw H3 H4;have HMM:=zo hmm;rw[← hmm] at H5 CRx;have HD5:=zo (H5.after (aL (zh W5.heap.size W5)));have CRy:=zo (CRx.out m W5.drew (HD5.below HB0.1 HB0.2) HD5.bk zy (by have:=HL.out;omega))
     clear CRx hmm FH;have hq1:bx≠rb:=xq IQ.out;refine wp_region_held_drew (S:=fun w'=>w'.cell? ⟨bx,1,none⟩=some (.int .i64 (m:Int))) zz (HD5.bk.cell 1 rfl) (fun hHeld=>?_)
     refine oL 0 (oi:=_) (v:=?_) ?_ ?_;rotate_left;focus ((intro w hSw;(try dsimp only at hSw);go_simp)<;>with_reducible rfl)
     refine oL 1 (oi:=_) (v:=?_) ?_ ?_;rotate_left;focus ((intro w hSw;(try dsimp only at hSw);go_simp)<;>with_reducible rfl)
     refine oL 2 (oi:=_) (v:=?_) ?_ ?_;rotate_left;focus ((intro w hSw;(try dsimp only at hSw);go_simp)<;>with_reducible rfl)
     refine oL 3 (oi:=_) (v:=?_) ?_ ?_;rotate_left;focus ((intro w hSw;(try dsimp only at hSw);go_simp)<;>with_reducible rfl)
     refine oL 4 (oi:=_) (v:=?_) ?_ ?_;rotate_left;focus ((intro w hSw;(try dsimp only at hSw);go_simp)<;>with_reducible rfl)
     refine oL 5 (oi:=_) (v:=?_) ?_ ?_;rotate_left;focus ((intro w hSw;(try dsimp only at hSw);go_simp)<;>with_reducible rfl)
     refine oL 6 (oi:=_) (v:=?_) ?_ ?_;rotate_left;focus ((intro w hSw;(try dsimp only at hSw);go_simp)<;>with_reducible rfl)
     refine oL 7 (oi:=_) (v:=?_) ?_ ?_;rotate_left;focus ((intro w hSw;(try dsimp only at hSw);go_simp)<;>with_reducible rfl)
     refine wpAnyH_ready (rs:=[8]) zz zw ?_;refine AllReadyH.cons (o:=_) rfl (fun K hK=>?_) AllReadyH.nil
     go_simp;go_at_call 408;refine CRy.mono ?_;rintro e w6 ⟨A6,c6,rfl,ho6,hb6⟩;have H6:=zo (HD5.after hb6);have HO:=zo ho6;refine hK.out _ _ (H6.bk.cell 1 rfl) (fun lU=>?_)
     clear hK K hHeld ho6 hb6
     try simp only[Act.put,List.setIfInBounds_toArray,List.set_cons_zero,List.set_cons_succ]
     refine oL 9 (oi:={ dst:=some 65,op:=.build 30 #[(0,.const (.int .i64 3)),(1,.tmp 64)],type:=30,pos:= "decode.go:77",after:=#[{ on:=8,ground:=.data}],guard:=none}) (v:=?_) ?_ ?_;rotate_left;focus ((intro w hSw;(try dsimp only at hSw);go_simp)<;>with_reducible rfl)
     refine wpAnyH_ready (rs:=[10]) zz zw ?_;refine AllReadyH.cons (o:=_) rfl (fun K hK=>?_) AllReadyH.nil
     refine ic (o:=_) rfl 30 (.tmp 2) (.tmp 65) rfl rb 0 [.int .i64 3,.slice A6 m c6,.string ⟨#[]⟩,.slice none 0 0,.bool false] rfl rfl 30 _ H6.res rfl zw (by simp[Value.oneCell']) ?_
     intro w7 WS hg7;have HK7:=zo WS;have HG7:=zo hg7;refine hK.out _ _ ((yz (HG7.block bx H6.bk.lt fun e=>hq1 (zq e))).trans (H6.bk.cell 1 rfl)) (fun rW=>?_)
     clear hK K lU rW WS hg7;refine wpAnyH_done zz ?_ _
     try simp only[Act.put]
     have y0:=HK7.cell 0 rfl;have y1:=HK7.cell 1 rfl;have y2:=HK7.cell 2 rfl;have y3:=HK7.cell 3 rfl;have y4:=HK7.cell 4 rfl;go_wp2;refine xx (v:=.agg #[.int .i64 3,.slice A6 m c6,.string ⟨#[]⟩,.slice none 0 0,.bool false]) (by simp[results,Tryz.results409,go_sem,y0,y1,y2,y3,y4]) rfl (.inr ⟨zx,A6,c6,rfl,?_,Av H6.gr HG7.out (xL hrb)⟩)
     have hsz:=HD5.gr.size;refine ((Rd.jf (p:=fun i=>i≠rb∧w.heap.size≤i) HO.out fun i h1 _=>?_).keep fun i h1 h2=>HG7.block i h1 fun e=>h2.1 (zq e)).mono fun _ _ h=>h.2
     have hlr:=H5.res.lt;have:W5.heap.size≤i:=h1;omega
structure afF (l:List UInt8)(p a:Nat):Prop where
 p6:p≤6
 pre:∀(r z:Nat),(aO p)[r]? =some z→(bs l)[r]? =some (.int .u8 (z:Int))
 ap:a=if 5≤p then (aO p).length+1 else (aO p).length
 no:∀o:UInt8,l[a]? =some o→(p=0→o≠203∧o≠237∧o≠221∧o≠253)∧(p=3∨p=4→o≠203)
 ln:(aO p).length≤l.length
theorem ahP {x:UInt8}{t:List UInt8}{c p:Nat}(hx:(x.toNat:Int)=(c:Int))(hp:aO p=[c]):∀(r z:Nat),(aO p)[r]? =some z→(bs (x::t))[r]? =some (.int .u8 (z:Int)):=fun r z h=>by
 rw[hp] at h
 match r,h with
 |0,h=>
  obtain rfl:=zq h;show some (Value.int .u8 (x.toNat:Int))=_;rw[hx]
 |r+1,h=>simp at h
theorem apQ {x y:UInt8}{t:List UInt8}{c d p:Nat}(hx:(x.toNat:Int)=(c:Int))(hy:(y.toNat:Int)=(d:Int))(hp:aO p=[c,d]):∀(r z:Nat),(aO p)[r]? =some z→(bs (x::y::t))[r]? =some (.int .u8 (z:Int)):=fun r z h=>by
 rw[hp] at h
 match r,h with
 |0,h=>
  obtain rfl:=zq h;show some (Value.int .u8 (x.toNat:Int))=_;rw[hx]
 |1,h=>
  obtain rfl:=zq h;show some (Value.int .u8 (y.toNat:Int))=_;rw[hy]
 |r+2,h=>simp at h
theorem Jw {l:List UInt8}(hl:l≠[]):afF l (l7 l).1 (l7 l).2:=by
 cases l with
 |nil=>exact absurd rfl hl
 |cons x t=>
 unfold l7;by_cases h1:x=203
 ·subst h1;show afF (203::t) 1 1;exact⟨zx,ahP rfl rfl,rfl,fun o _=>⟨fun h=>absurd h zx,fun h=>absurd h zx⟩,wP (zF _)⟩
 by_cases h2:x=237
 ·subst h2;show afF (237::t) 2 1;exact⟨zx,ahP rfl rfl,rfl,fun o _=>⟨fun h=>absurd h zx,fun h=>absurd h zx⟩,wP (zF _)⟩
 simp only[h1,h2,if_false]
 have key:∀c:UInt8,x=c→∀p q:Nat,(aO p=[c.toNat]∧3≤p∧p≤4)→(aO q=[c.toNat,203]∧5≤q∧q≤6)→afF (x::t) (if t.head? =some 203 then (q,3) else (p,1)).1 (if t.head? =some 203 then (q,3) else (p,1)).2:=fun c hx p q ⟨hp,p3,p4⟩ ⟨hq,q5,q6⟩=>by
  subst hx;by_cases ht:t.head? =some 203
  ·simp only[ht,if_true]
   cases t with
   |nil=>cases ht
   |cons y t=>
    obtain rfl:=zq ht;refine⟨q6,apQ rfl rfl hq,by rw[zW q5,hq];rfl,fun o _=>⟨fun h=>zy,fun h=>zy⟩,by rw[hq];exact wP (wP (zF _))⟩
  ·simp only[ht,if_false];refine⟨zy,ahP rfl hp,by rw[za zy,hp];rfl,fun o ho=>⟨fun h=>zy,fun _ e=>ht ?_⟩,by rw[hp];exact wP (zF _)⟩
   cases t with
   |nil=>cases ho
   |cons y t=>
    rw[← e];exact ho
 by_cases h3:x=221
 ·simp only[h3,if_true];have:=key 221 h3 3 5 ⟨rfl,zx,zx⟩ ⟨rfl,zx,zx⟩;rwa [h3] at this
 by_cases h4:x=253
 ·simp only[h4,if_true];have:=key 253 h4 4 6 ⟨rfl,zx,zx⟩ ⟨rfl,zx,zx⟩;rw[h4] at this
  simpa using this
 simp only[h3,h4,if_false];refine⟨zx,fun r z h=>by simp[aO] at h,rfl,fun o ho=>⟨fun _=>?_,fun h=>absurd h zx⟩,zF _⟩
 obtain rfl:x=o:=zq ho;exact⟨h1,h2,h3,h4⟩
theorem iC {o:UInt8}{c:Nat}(h:Nat.beq o.toNat c=true)(hc:c < 256):o=UInt8.ofNat c:=by
 have:=(beq_iff _ _).1 h;exact xM.1 (by rw[this,UInt8.toNat_ofNat_of_lt' hc])
theorem aer {w:World}(hG:eT w){l:List UInt8}(hl:l≠[])(_hm:l.length≤1000){A:Option Addr}{c:Nat}(hc:l.length≤c){q:Nat→Prop}(hr:Rd w q A (bs l)):
 ∃m,1≤m∧m≤l.length∧(dec l).2.1=l.take m∧Hid (abR (dec l).1 m (ag (dec l).2.2.1) (dec l).2.2.2.1 (dec l).2.2.2.2 (bs l) A l.length c w):=by
 have hN:(bs l).length=l.length:=aQ l;have h1:=Fa l;have hl1:1≤l.length:=yG.2 hl;have hp:=Jw hl;obtain⟨p,nW⟩:∃p,(l7 l).1=p:=⟨_,rfl⟩;obtain⟨a,haa⟩:∃a,(l7 l).2=a:=⟨_,rfl⟩;rw[nW,haa] at hp
 have els:∀k m,ItQ p (bs l) k m→(k=4→m=l.length)→abR k m ⟨#[]⟩ [] false (bs l) A l.length c w:=fun k m hQ h4 W bx hb hx hB=>by
  refine (VB hG p k m hp.p6 (bs l) hp.pre hQ h1 A l.length c hN zy hc bx W q hb hx hB hr).mono ?_;rintro e w' (⟨rfl,rfl,hD⟩|⟨_,A',c',rfl,hr',hg⟩)
  ·exact .inr ⟨rfl,h4 rfl,rfl,rfl,rfl,rfl,hD⟩
  ·exact .inl ⟨A',c',none,0,rfl,⟨hr',fun h=>absurd rfl h⟩,hg⟩
 have cut:ItQ p (bs l) 4 l.length→dec l=(4,l,[],[],false)→∃m,1≤m∧m≤l.length∧(dec l).2.1=l.take m∧Hid (abR (dec l).1 m (ag (dec l).2.2.1) (dec l).2.2.2.1 (dec l).2.2.2.2 (bs l) A l.length c w):=fun hQ hd=>by
  rw[hd];exact⟨l.length,hl1,zn _,yH.symm,els 4 _ hQ fun _=>rfl⟩
 have ap:=hp.ap;have hln:=hp.ln
 cases ho:l[a]? with
 |none=>
  have hge:l.length≤a:=yI.1 ho;refine cut (.inl ⟨rfl,?_⟩) (by unfold dec;rw[haa,ho])
  by_cases h5:5≤p
  ·rw[zW h5] at ap;rcases zP (aO p).length l.length with hlt|hge'
   ·refine .inr (.inr (.inl ⟨h5,zy,?_⟩));obtain⟨x,hx⟩:∃x,l[(aO p).length]? =some x:=⟨_,zg hlt⟩;exact⟨_,rf hx,by have:=x.toNat_lt;omega,by have:=x.toNat_lt;omega⟩
   ·exact .inr (.inl ⟨h5,zy⟩)
  ·rw[za h5] at ap;exact .inl ⟨zy,zy⟩
 |some o=>
  obtain⟨d,hd⟩:=tT (p:=p) (o:=o.toNat) (by have:=hp.p6;omega) o.toNat_lt
  have hkd:=dL JQ hd;have hlt:a < l.length:=(zf.1 ho).1
  have hde:dec l=FX p a d l:=by
   unfold dec;rw[haa,ho,nW];simp only[hd]
  have hV:=rf ho;unfold aen at hkd;unfold FX at hde;split at hkd
  ·rename_i hk;rw[hk] at hde;simp only at hde;have h5:¬5≤p:=fun h=>by have:=zk hkd;omega
   rw[za h5] at ap;rw[hde];exact⟨1,zn _,hl1,rfl,els 2 1 (.inr ⟨zx,zy,o.toNat,d,hd,ap ▸ hV,.inl ⟨hk,rfl,rfl⟩⟩) fun h=>absurd h zx⟩
  ·rename_i hk;rw[hk] at hde;simp only at hde;obtain⟨q1,q2,q3,q4⟩:True∧True∧True∧True:=⟨trivial,trivial,trivial,trivial⟩;have hex:gV d.2.2.1 jQ=true:=(eF hd).2.2.1;have hF:=jk hd hk;by_cases h5:5≤p
   ·rw[zW h5] at ap hde;unfold ae3 at hkd;rw[yF h5] at hkd;have qZ:=bJ (show gH d.2.2.1 [100]=true from hkd)
    have hp2:(aO p).length=2:=by
     have:p=5∨p=6:=by have:=hp.p6;omega
     rcases this with rfl|rfl<;>rfl
    rcases AU hex l 2 zy with⟨dv,nv,h1',h2',h3',h4',h5'⟩|⟨h1',h2'⟩
    ·rw[h1'] at hde;simp only at hde;rw[hde]
     have hn0:nv=0:=by
      rw[qZ] at h4';have q1:(0:Int)≤nv:=h4'.1;have q2:nv≤(0:Int):=h4'.2;omega
     have hz:FB p d=4:=by
      unfold FB;rw[qZ];have:p=5∨p=6:=by have:=hp.p6;omega
      rcases this with rfl|rfl<;>rfl
     have ha1:a+1=4:=zy;refine⟨4,zx,zy,by rw[hz],fun W bx hb hx hB=>?_⟩
     have hH:ItH p o.toNat d.2.2.1 dv nv (bs l) 4:=⟨hp.pre,fun _=>⟨by
      rw[qZ,hn0] at h2';rw[hp2];exact h2',by rw[← ap];exact hV,hn0,zy⟩,fun h=>zy⟩
     refine (Nr hG p o.toNat d hp.p6 o.toNat_lt hd hk dv nv (Ac hF.rd h3'.1 h3'.2) (Ac hF.rn h4'.1 h4'.2) (bs l) 4 hH h1 A l.length c hN zy hc zx zy bx W q hb hx hB hr).mono ?_;rintro e w' ⟨A',c',OP,c'',rfl,r1,r2,hg⟩;exact .inl ⟨A',c',OP,c'',by unfold Qs eO;rw[iL,iL];rfl,⟨r1,r2⟩,hg⟩
    ·rw[qZ] at h2';rcases h2' with⟨h,_⟩|⟨h,_⟩|⟨_,_,h⟩
     ·omega
     ·cases h
     ·exact h.elim
   ·rw[za h5] at ap hde;have hl5:(aO p).length+1=a+1:=zy;rcases AU hex l (a+1) zy with⟨dv,nv,h1',h2',h3',h4',h5'⟩|⟨h1',h2'⟩
    ·rw[h1'] at hde;simp only at hde;rw[hde]
     have hz:FB p d=a+1+oG d.2.2.1:=by
      unfold FB;rw[ap];have nW:p=0∨p=1∨p=2∨p=3∨p=4:=zy;rcases nW with rfl|rfl|rfl|rfl|rfl<;>rfl
     refine⟨FB p d,zy,zy,rfl,fun W bx hb hx hB=>?_⟩
     have hH:ItH p o.toNat d.2.2.1 dv nv (bs l) (FB p d):=⟨hp.pre,fun h=>absurd h h5,fun _=>⟨by rw[← ap];exact hV,by rw[hl5,hz];exact h2'⟩⟩
     refine (Nr hG p o.toNat d hp.p6 o.toNat_lt hd hk dv nv (Ac hF.rd h3'.1 h3'.2) (Ac hF.rn h4'.1 h4'.2) (bs l) (FB p d) hH h1 A l.length c hN zy hc zy zy bx W q hb hx hB hr).mono ?_;rintro e w' ⟨A',c',OP,c'',rfl,r1,r2,hg⟩;exact .inl ⟨A',c',OP,c'',by unfold Qs eO;rw[iL,iL];rfl,⟨r1,r2⟩,hg⟩
    ·rw[h1'] at hde;exact cut (.inl ⟨rfl,.inr (.inr (.inr ⟨zy,o.toNat,d,o.toNat_lt,hd,hk,ap ▸ hV,by rw[hl5];exact h2'⟩))⟩) hde
  ·rename_i hk;simp only[Bool.or_eq_true,Bool.and_eq_true] at hkd;obtain⟨n1,n2⟩:=hp.no o ho;rcases hkd with⟨h0,h|h|h|h⟩|⟨h0,h⟩
   ·exact absurd (iC h zx) (n1 ((beq_iff _ _).1 h0)).1
   ·exact absurd (iC h zx) (n1 ((beq_iff _ _).1 h0)).2.1
   ·exact absurd (iC h zx) (n1 ((beq_iff _ _).1 h0)).2.2.1
   ·exact absurd (iC h zx) (n1 ((beq_iff _ _).1 h0)).2.2.2
   ·exact absurd (iC h zx) (n2 (h0.imp (fun h=>(beq_iff _ _).1 h) fun h=>(beq_iff _ _).1 h))
  ·rename_i hk;rw[hk] at hde;simp only at hde;obtain rfl:=(beq_iff _ _).1 hkd;rw[za zx] at ap;have ap:a=1:=ap;rw[hde];have hpa:(aO 2).length=a:=by rw[ap];rfl
   exact⟨2,zx,zy,rfl,els 3 2 (.inr ⟨zx,zx,o.toNat,d,hd,(by rw[hpa];exact hV),.inr ⟨hk,rfl,rfl⟩⟩) fun h=>absurd h zx⟩
  ·cases hkd
abbrev jY:=Rj×Option Addr×Nat×Option Addr×Nat
abbrev jX (x:jY):List Value:=[.int .i64 (x.1.1:Int),.slice x.2.1 x.1.2.1.length x.2.2.1,.string (ag x.1.2.2.1),.slice x.2.2.2.1 x.1.2.2.2.1.length x.2.2.2.2,.bool x.1.2.2.2.2]
def Lr (B:Nat)(w:World)(x:jY):Prop:=Rd w (fun i=>B≤i) x.2.1 (bs x.1.2.1)∧Rd w (fun i=>B≤i) x.2.2.2.1 (dD x.1.2.2.2.1)
theorem Lr.after {B:Nat}{w w':World}{x:jY}(h:Lr B w x)(hb:Below w.heap.size w w'):Lr B w' x:=⟨h.1.after hb,h.2.after hb⟩
theorem Lr.mono {B B':Nat}{w:World}{x:jY}(h:Lr B w x)(hB:B'≤B):Lr B' w x:=⟨h.1.mono fun _ _ h=>zV hB h,h.2.mono fun _ _ h=>zV hB h⟩
theorem Lr.grown {B:Nat}{w w':World}{x:jY}{r:Option Nat}(h:Lr B w x)(hg:w.grownBy w' r)(hr:∀k,r=some k→k < B):Lr B w' x:=
 ⟨h.1.keep fun i hi h=>hg.block i hi fun e=>by have:=hr i e.symm;omega,h.2.keep fun i hi h=>hg.block i hi fun e=>by have:=hr i e.symm;omega⟩
theorem VR {w:World}(hG:eT w){l:List UInt8}(hl:l≠[])(hm:l.length≤1000){A:Option Addr}{c:Nat}(hc:l.length≤c){q:Nat→Prop}(hr:Rd w q A (bs l)):
 Calls Tryz.prog 317 #[.slice A l.length c] w fun e w'=>∃x:jY,x.1=dec l∧e= .returned (.agg (jX x).toArray)∧Lr w.heap.size w' x∧Below w.heap.size w w':=by
 obtain⟨m,h1,h2,h3,hI⟩:=aer hG hl hm hc hr;refine (VQ hI (Fa l) (aQ l) (yG.2 hl) zy hc q hr).mono ?_;rintro e w' ⟨A',c',OP,c'',rfl,⟨r1,r2⟩,hb⟩;have hlen:(dec l).2.1.length=m:=by rw[h3,zJ];omega
 refine⟨(dec l,A',c',OP,c''),rfl,by simp only[Qs,jX,hlen],⟨?_,r2⟩,hb⟩
 rw[h3]
 simpa [bs,List.map_take] using r1
theorem jR {l:List UInt8}(hl:l≠[]):1≤(dec l).2.1.length∧(dec l).2.1.length≤l.length∧(dec l).2.1=l.take (dec l).2.1.length:=by
 have hl1:1≤l.length:=yG.2 hl
 have key:∃m,1≤m∧(dec l).2.1=l.take m:=by
  unfold dec FX;split
  ·exact⟨l.length,hl1,yH.symm⟩
  ·split
   ·exact⟨l.length,hl1,yH.symm⟩
   ·split
    ·exact⟨1,zn _,rfl⟩
    ·exact⟨2,zx,rfl⟩
    ·split
     ·exact⟨l.length,hl1,yH.symm⟩
     ·exact⟨_,by unfold FB;split<;>omega,rfl⟩
 obtain⟨m,h1,h2⟩:=key;rw[h2,zJ];refine⟨zy,zy,?_⟩;rcases Nat.le_total m l.length with h|h
 ·rw[wJ h]
 ·rw[Nat.min_eq_right h,yH,yn h]
theorem V8 {w:World}(hG:eT w){l:List UInt8}{k:Nat}(hk:k < l.length)(hm:l.length≤1000){A:Option Addr}{c:Nat}(hc:l.length≤c){q:Nat→Prop}(hr:Rd w q A (bs l)):
 Calls Tryz.prog 255 #[.slice A l.length c,.int .i64 (k:Int)] w fun e w'=>∃x:jY,x.1=dec (l.drop k)∧e= .returned (.tuple #[.agg (jX x).toArray,.int .i64 (((k+x.1.2.1.length:Nat)):Int),.bool true])∧Lr w.heap.size w' x∧Below w.heap.size w w':=by
 have hne:l.drop k≠[]:=fun e=>by
  have:=yV List.length e;rw[zH] at this;simp only[List.length_nil] at this;omega
 have hld:(l.drop k).length=l.length - k:=zH
 have CF:Hid (∀W,Below w.heap.size w W→Calls Tryz.prog 317 #[.slice (cutAt A c k 1) (l.length - k) (c - k)] W fun e w'=>∃x:jY,x.1=dec (l.drop k)∧e= .returned (.agg (jX x).toArray)∧Lr W.heap.size w' x∧Below W.heap.size W w'):=fun W hb=>by
  have h1:=(hr.after hb).cut (size:=1) (n:=l.length) (c:=c) (k:=k) (by rw[aQ];omega) hc
  have h2:(bs l).drop (k * 1)=bs (l.drop k):=by simp[bs]
  rw[h2] at h1;have:=VR (hG.after hb) hne zy (c:=c - k) zy h1;rwa [hld] at this
 have hsl:∀W,(Instr.sliceAt 22 (.slice A l.length c) (some (.int .i64 (k:Int))) none none).run Tryz.prog W= .ok (.slice (cutAt A c k 1) (l.length - k) (c - k)) W:=fun W=>by
  rw[run_sliceAt_slice W _ _ _ _ _ iU.under];exact sP iU A l.length c k W zy
 have H0:Hid (Below w.heap.size w (w.alloc (.cells #[.int .i64 0,.slice none 0 0,.string ⟨#[]⟩,.slice none 0 0,.bool false] 30))):=(zh _ _).alloc (zn _) _;have K0:=zo (Bk.new w 30 [.int .i64 0,.slice none 0 0,.string ⟨#[]⟩,.slice none 0 0,.bool false]);have hk0:¬((k:Int) < 0):=zy;have hk1:¬((l.length:Int)≤(k:Int)):=zy;obtain⟨xr,hxr⟩:∃xr,dec (l.drop k)=xr:=⟨_,rfl⟩
 have hrl:(xr.2.1.length:Int)≤1000:=by
  have:=(jR hne).2.1;rw[hxr] at this;omega
 have hk2:(k:Int)≤1000:=zy;rw[hxr] at CF ⊢;obtain⟨k1,raw,nm,ops,al⟩:=xr;clear hxr;have hrl:(raw.length:Int)≤1000:=hrl;have HK:=zo (zM hk hm);clear hr hG hc hne hld hk hm;generalize l.length=n at hk1 hsl CF HK ⊢;go_enter Tryz.func255,Tryz.ntmps255;go_upto_region 4 with (go_at_call 317;refine (CF.out _ H0.out).mono ?_;rintro e w1 ⟨⟨xr,A1,c1,A2,c2⟩,rfl,rfl,hI,hb⟩;have HI:=zo (hI.mono (B':=w.heap.size+1) (xL (zU _ _).symm));have HB:=zo (H0.trans (hb.mono H0.size));have K1:=zo (K0.after hb);clear hI hb)
 have Es:=(zh w1.heap.size w1).alloc (zn _) (.cells #[.int .i64 (k1:Int),.slice A1 raw.length c1,.string (ag nm),.slice A2 ops.length c2,.bool al] 30);have KN:Hid (Bk (w1.alloc (.cells #[.int .i64 (k1:Int),.slice A1 raw.length c1,.string (ag nm),.slice A2 ops.length c2,.bool al] 30)) w1.heap.size 30 [.int .i64 (k1:Int),.slice A1 raw.length c1,.string (ag nm),.slice A2 ops.length c2,.bool al]):=zo (Bk.new w1 _ _);have K2:=zo (K1.after Es);have HI2:=zo (HI.after Es);have HB2:=zo (HB.trans (Es.mono HB.size));have HLT:=zo K1.lt;generalize (w1.alloc (.cells #[.int .i64 (k1:Int),.slice A1 raw.length c1,.string (ag nm),.slice A2 ops.length c2,.bool al] 30))=W2 at KN K2 HI2 HB2 ⊢;generalize w1.heap.size=bn at KN HLT ⊢;obtain⟨bo,ai4⟩:∃b,w.heap.size=b:=⟨_,rfl⟩;have HBO:=zo ai4;have HBL:Hid (bo < w.heap.size+1):=zo zy;rw[ai4] at K2 HLT ⊢;clear Es K1 HI HB ai4;have z1:W2.drew.cell? ⟨bn,1,none⟩=some (.slice A1 raw.length c1):=KN.cell 1 rfl;refine wp_region_held_drew (S:=fun w'=>w'.cell? ⟨bn,0,none⟩=some (.int .i64 (k1:Int))∧w'.cell? ⟨bn,1,none⟩=some (.slice A1 raw.length c1)∧w'.cell? ⟨bn,2,none⟩=some (.string (ag nm))∧w'.cell? ⟨bn,3,none⟩=some (.slice A2 ops.length c2)∧w'.cell? ⟨bn,4,none⟩=some (.bool al)) zz ⟨KN.cell 0 rfl,KN.cell 1 rfl,KN.cell 2 rfl,KN.cell 3 rfl,KN.cell 4 rfl⟩ (fun hHeld=>?_)
 clear z1;refine oL 0 (oi:=_) (v:=?_) ?_ ?_;rotate_left;focus ((intro w hSw;(try dsimp only at hSw);go_simp)<;>with_reducible rfl)
 refine oL 2 (oi:=_) (v:=?_) ?_ ?_;rotate_left;focus ((intro w hSw;(try dsimp only at hSw);go_simp)<;>with_reducible rfl)
 refine oL 3 (oi:=_) (v:=?_) ?_ ?_;rotate_left;focus ((intro w hSw;(try dsimp only at hSw);go_simp)<;>with_reducible rfl)
 refine oL 4 (oi:=_) (v:=?_) ?_ ?_;rotate_left;focus ((intro w hSw;(try dsimp only at hSw);go_simp)<;>with_reducible rfl)
 refine oL 1 (oi:=_) (v:=?_) ?_ ?_;rotate_left;focus ((intro w hSw;(try dsimp only at hSw);go_simp)<;>with_reducible rfl)
 refine oL 5 (oi:=_) (v:=?_) ?_ ?_;rotate_left;(focus ((intro w hSw;(try dsimp only at hSw);go_simp)<;>with_reducible rfl));try simp only[Act.put,List.getElem_toArray,List.getElem_cons_zero,List.getElem_cons_succ,List.setIfInBounds_toArray,List.set_cons_zero,List.set_cons_succ]
 refine wpAnyH_ready (rs:=[6]) zz zw ?_;refine AllReadyH.cons (o:=_) rfl (fun K hK=>?_) AllReadyH.nil
 refine ic (o:=_) rfl 30 (.tmp 4) (.tmp 21) rfl bo 0 [.int .i64 (k1:Int),.slice A1 raw.length c1,.string (ag nm),.slice A2 ops.length c2,.bool al] rfl rfl 30 _ K2.out rfl zw (by simp[Value.oneCell']) ?_
 intro w3 hk3 hg3;have u7:=zo hk3;have ru:=zo hg3
 have keep:∀j (u:Value),W2.cell? ⟨bn,j,none⟩=some u→w3.cell? ⟨bn,j,none⟩=some u:=fun j u hc=>by
  rw[← hc];exact yz (ru.block bn (lt_of_cell hc) fun e=>by have h1:=HLT.out;have h2:bn=bo:=zq e;omega)
 refine hK.out _ _ ⟨keep _ _ (KN.cell 0 rfl),keep _ _ (KN.cell 1 rfl),keep _ _ (KN.cell 2 rfl),keep _ _ (KN.cell 3 rfl),keep _ _ (KN.cell 4 rfl)⟩ (fun lU=>?_)
 clear hK K hHeld hk3 hg3 keep
 try simp only[Act.put,List.getElem_toArray,List.getElem_cons_zero,List.getElem_cons_succ]
 refine oL 7 (oi:=_) (v:=?_) ?_ ?_;rotate_left;(focus ((intro w hSw;(try dsimp only at hSw);go_simp)<;>with_reducible rfl));try simp only[Act.put,List.getElem_toArray,List.getElem_cons_zero,List.getElem_cons_succ,List.setIfInBounds_toArray,List.set_cons_zero,List.set_cons_succ]
 refine oL 8 (oi:=_) (v:=?_) ?_ ?_;rotate_left;(focus ((intro w hSw;(try dsimp only at hSw);go_simp)<;>with_reducible rfl));try simp only[Act.put,List.getElem_toArray,List.getElem_cons_zero,List.getElem_cons_succ,List.setIfInBounds_toArray,List.set_cons_zero,List.set_cons_succ]
 refine wpAnyH_done zz ?_ _;have y0:=u7.cell 0 rfl;have y1:=u7.cell 1 rfl;have y2:=u7.cell 2 rfl;have y3:=u7.cell 3 rfl;have y4:=u7.cell 4 rfl
 have hwr:IntKind.i64.wrap ((k:Int)+(raw.length:Int))=((k+raw.length:Nat):Int):=by
  rw[IntWalk.i64_in _ zy,Int.natCast_add]
 go_wp2;refine xx (v:=.tuple #[.agg (jX ((k1,raw,nm,ops,al),A1,c1,A2,c2)).toArray,.int .i64 ((k+raw.length:Nat):Int),.bool true]) (by simp[results,Tryz.results255,go_sem,y0,y1,y2,y3,y4,hwr]) rfl ⟨((k1,raw,nm,ops,al),A1,c1,A2,c2),rfl,rfl,?_,?_⟩
 ·exact ((HI2.after (aL (zh _ _))).grown ru.out (fun q e=>by have h2:bo=q:=zq e;have h3:=HBL.out;omega)).mono (by have:=HBO.out;have h3:=HBL.out;omega)
 ·exact (aL HB2.out).grown ru.out HB2.size fun q e=>by have h2:bo=q:=zq e;have:=HBO.out;omega
end
section
open Go.RowKit Go.Shelf Ex
theorem eQ {a b:Int}(h:¬a=b):(a == b)=false:=by simpa using h
theorem UD {w:World}{l:List UInt8}(hl:l≠[])(hm:l.length≤1000){A:Option Addr}{c:Nat}(_hc:l.length≤c){q:Nat→Prop}(hr:Rd w q A (bs l)):
 Calls Tryz.prog 32 #[.slice A l.length c] w fun e w'=>e= .returned (.tuple #[.int .i64 ((l7 l).1:Nat),.int .i64 ((l7 l).2:Nat)])∧w=w':=by
 cases l with
 |nil=>exact absurd rfl hl
 |cons x t=>
 obtain⟨g,off,rfl,_,c0⟩:=hr.v (k:=0) (u:=.int .u8 (x.toNat:Int)) rfl;rw[Nat.add_zero] at c0;have d1:∀k:UInt8,x≠k→¬((x.toNat:Int)=(k.toNat:Int)):=fun k h e=>h (xM.1 zy)
 have hn:((t.length+1:Nat):Int)≤1000:=by simp only[List.length_cons] at hm;omega
 have hp:(0:Int) < ((t.length+1:Nat):Int):=zy;by_cases h1:x=203
 ·subst h1;clear d1;go_enter Tryz.func32,Tryz.ntmps32;go_wp2;go_ret2;exact⟨rfl,rfl⟩
 by_cases h2:x=237
 ·subst h2;clear d1;go_enter Tryz.func32,Tryz.ntmps32;go_wp2;go_ret2;exact⟨rfl,rfl⟩
 by_cases h3:x=221
 ·subst h3;clear d1
  cases t with
  |nil=>
   go_enter Tryz.func32,Tryz.ntmps32;go_wp2;go_ret2;exact⟨rfl,rfl⟩
  |cons y t=>
   obtain⟨_,_,e2,_,c1⟩:=hr.v (k:=1) (u:=.int .u8 (y.toNat:Int)) rfl;injection e2 with e2
   injection e2 with e3 e4
   subst e3 e4;have hn2:((t.length+1+1:Nat):Int) > 1:=zy;have hn3:(1:Int) < ((t.length+1+1:Nat):Int):=zy;by_cases hy:y=203
   ·subst hy;go_enter Tryz.func32,Tryz.ntmps32;go_wp2;go_ret2;exact⟨rfl,rfl⟩
   ·have y0:¬((y.toNat:Int)=203):=fun e=>hy (xM.1 (by show y.toNat=203;omega))
    have y1:=eQ y0;have e5:l7 (221::y::t)=(3,1):=by unfold l7;simp[hy]
    rw[e5];clear hy e5;generalize (y.toNat:Int)=z at c1 y0 y1;go_enter Tryz.func32,Tryz.ntmps32;go_wp2;go_ret2;exact⟨rfl,rfl⟩
 by_cases h4:x=253
 ·subst h4;clear d1
  cases t with
  |nil=>
   go_enter Tryz.func32,Tryz.ntmps32;go_wp2;go_ret2;exact⟨rfl,rfl⟩
  |cons y t=>
   obtain⟨_,_,e2,_,c1⟩:=hr.v (k:=1) (u:=.int .u8 (y.toNat:Int)) rfl;injection e2 with e2
   injection e2 with e3 e4
   subst e3 e4;have hn2:((t.length+1+1:Nat):Int) > 1:=zy;have hn3:(1:Int) < ((t.length+1+1:Nat):Int):=zy;by_cases hy:y=203
   ·subst hy;go_enter Tryz.func32,Tryz.ntmps32;go_wp2;go_ret2;exact⟨rfl,rfl⟩
   ·have y0:¬((y.toNat:Int)=203):=fun e=>hy (xM.1 (by show y.toNat=203;omega))
    have y1:=eQ y0;have e5:l7 (253::y::t)=(4,1):=by unfold l7;simp[hy]
    rw[e5];clear hy e5;generalize (y.toNat:Int)=z at c1 y0 y1;go_enter Tryz.func32,Tryz.ntmps32;go_wp2;go_ret2;exact⟨rfl,rfl⟩
 have e0:l7 (x::t)=(0,0):=by unfold l7;simp only[h1,h2,h3,h4,if_false]
 rw[e0];have y1:¬((x.toNat:Int)=203):=d1 203 h1;have y2:¬((x.toNat:Int)=237):=d1 237 h2;have y3:¬((x.toNat:Int)=221):=d1 221 h3;have y4:¬((x.toNat:Int)=253):=d1 253 h4;have z1:=eQ y1;have z2:=eQ y2;have z3:=eQ y3;have z4:=eQ y4;clear d1 h1 h2 h3 h4 e0 hr hl;generalize (x.toNat:Int)=z at *;go_enter Tryz.func32,Tryz.ntmps32;go_wp2;go_ret2;exact⟨rfl,rfl⟩
theorem UG {w:World}{l:List UInt8}(k n:Nat)(_hn:n≤l.length)(_hm:l.length≤1000){A:Option Addr}{c:Nat}(_hc:l.length≤c){q:Nat→Prop}(hr:Rd w q A (bs l)):
 Calls Tryz.prog 33 #[.int .i64 (k:Int),.slice A l.length c,.int .i64 (n:Int)] w fun e w'=>∃A' c',e= .returned (.agg #[.int .i64 (k:Int),.slice A' n c',.string ⟨#[]⟩,.slice none 0 0,.bool false])∧Rd w' (fun i=>w.heap.size≤i) A' (bs (l.take n))∧Below w.heap.size w w':=by
 have hnc:(n:Int)≤(c:Int):=zy;have HR:=zo hr;clear hr;go_enter Tryz.func33,Tryz.ntmps33;have HV:=zo (show (bs (l.take n)).length=n * 1 by rw[aQ,zJ];omega)
 have HW:Hid (((w.alloc (.cells #[.int .i64 0,.slice none 0 0,.string ⟨#[]⟩,.slice none 0 0,.bool false] 30)).alloc (.cells #[] 5)).ownsRow (w.heap.size+1) 5 1 (.slice (some ⟨w.heap.size+1,0,none⟩) 0 0) 0 []):=
  ⟨rfl,.inr ⟨w.heap.size+1,0,#[],rfl,zn _,by have:=yJ (w.alloc (.cells #[.int .i64 0,.slice none 0 0,.string ⟨#[]⟩,.slice none 0 0,.bool false] 30)) (.cells #[] 5);rwa [zU] at this,zn _,zF _,rfl,rfl⟩⟩
 have HR2:Hid (Rd ((w.alloc (.cells #[.int .i64 0,.slice none 0 0,.string ⟨#[]⟩,.slice none 0 0,.bool false] 30)).alloc (.cells #[] 5)) (fun _=>True) A (bs (l.take n))):=by
  have h1:bs (l.take n)=(bs l).take n:=by simp[bs,List.map_take]
  rw[h1];exact (((HR.take n).after (((zh _ _).alloc (zn _) _).alloc zw _)).mono fun _ _ _=>trivial)
 have HK:Hid (Bk ((w.alloc (.cells #[.int .i64 0,.slice none 0 0,.string ⟨#[]⟩,.slice none 0 0,.bool false] 30)).alloc (.cells #[] 5)) w.heap.size 30 [.int .i64 0,.slice none 0 0,.string ⟨#[]⟩,.slice none 0 0,.bool false]):=(Bk.new w _ _).alloc _;have HB:Hid (Below w.heap.size w ((w.alloc (.cells #[.int .i64 0,.slice none 0 0,.string ⟨#[]⟩,.slice none 0 0,.bool false] 30)).alloc (.cells #[] 5))):=((zh _ _).alloc (zn _) _).alloc zw _
 go_wp2_with (first
  |(at_builtin;go_must (refine bu agK rfl (.tmp 8) (.tmp 11) rfl (w.heap.size+1) _ 0 [] (fun _=>True) A n c (bs (l.take n)) rfl rfl HW.out HV.out HR2.out (Fa _) (by unfold maxLen;omega) zy zw ?_;intro v2 w2 ho hg ha _;rw[yD,xD] at ho;obtain⟨A2,c2,rfl,_⟩:=bg ho;have HO:=zo ho;have qL:Hid (Bk w2 w.heap.size 30 [.int .i64 0,.slice none 0 0,.string ⟨#[]⟩,.slice none 0 0,.bool false]):=zo ((hg.block _ HK.lt fun e=>by have h1:w.heap.size=w.heap.size+1:=zq e;omega).trans HK.out);have HB2:=zo (HB.grown hg HB.size fun k e=>by have h1:w.heap.size+1=k:=zq e;omega);clear ho hg ha))
  |(refine aN rfl 30 (.tmp 6) (.tmp 13) rfl w.heap.size 0 [.int .i64 (k:Int),.slice A2 n c2,.string ⟨#[]⟩,.slice none 0 0,.bool false] rfl rfl 30 _ qL.out rfl zw (by simp[Value.oneCell']) ?_;intro w3 hk3 hg3;have ru:=zo hg3;have y0:=hk3.cell 0 rfl;have y1:=hk3.cell 1 rfl;have y2:=hk3.cell 2 rfl;have y3:=hk3.cell 3 rfl;have y4:=hk3.cell 4 rfl;clear hk3 hg3))
 refine⟨rfl,.agg #[.int .i64 (k:Int),.slice A2 n c2,.string ⟨#[]⟩,.slice none 0 0,.bool false],by simp[results,Tryz.results33,go_sem,y0,y1,y2,y3,y4],A2,c2,rfl,?_,?_⟩
 ·have h1:=Rd.jf (p:=fun i=>w.heap.size+1≤i) HO.out fun i h _=>h
  exact (h1.grown ru.out fun i _ h e=>by have:i=w.heap.size:=zq e;omega).mono fun i _ h=>by omega
 ·exact HB2.grown ru.out HB2.size fun k e=>by have:w.heap.size=k:=zq e;omega
end
section
open Go.RowKit Go.Shelf Ex
attribute [local go_sem] wZ
def QP:Nat→List UInt8→List Rj
 |0,_=>[]
 |_+1,[]=>[]
 |n+1,x::l=>dec (x::l)::QP n ((x::l).drop (dec (x::l)).2.1.length)
theorem Il:∀{n m:Nat} {l:List UInt8},l.length≤n→l.length≤m→QP n l=QP m l
 |0,0,_,_,_=>rfl
 |0,_+1,[],_,_=>rfl
 |0,_+1,_::_,h,_=>absurd h zw
 |_+1,0,[],_,_=>rfl
 |_+1,0,_::_,_,h=>absurd h zw
 |_+1,_+1,[],_,_=>rfl
 |n+1,m+1,x::l,h,h'=>by
  have hd:=(jR (l:=x::l) zw).1;have hl:((x::l).drop (dec (x::l)).2.1.length).length≤l.length:=by rw[zH,yw];omega
  rw[yw] at h h';unfold QP;rw[Il (n:=n) (m:=m) zy zy]
def items (l:List UInt8):List Rj:=QP l.length l
theorem qE:items []=[]:=rfl
theorem jh {l:List UInt8}(hl:l≠[]):items l=dec l::items (l.drop (dec l).2.1.length):=by
 cases l with
 |nil=>exact absurd rfl hl
 |cons x l=>
  have hd:=(jR (l:=x::l) zw).1;show QP (l.length+1) (x::l)=_;unfold QP items;rw[Il (n:=l.length) (m:=((x::l).drop (dec (x::l)).2.1.length).length) (by rw[zH,yw];omega) (zn _)]
theorem mI:∀(n:Nat) (l:List UInt8),l.length≤n→(items l).length≤l.length
 |_,[],_=>zn _
 |0,_::_,h=>absurd h zw
 |n+1,x::l,h=>by
  have hd:=jR (l:=x::l) zw;rw[jh zw];have:=mI n ((x::l).drop (dec (x::l)).2.1.length) (by rw[zH];omega)
  rw[zH] at this;rw[yw];omega
theorem aaO (A:Option Addr)(n c:Nat)(w:World):
 Calls Tryz.prog 193 #[.slice A n c] w fun e w'=>e= .returned (.func (.func 254) #[] #[.pointer (some ⟨w.heap.size,0,none⟩)])∧w.alloc (.cells #[.slice A n c] 22)=w':=by
 go_enter Tryz.func193,Tryz.ntmps193;go_wp2;go_ret;exact⟨rfl,rfl⟩
theorem V7 (A:Option Addr)(n c:Nat)(w:World):
 Calls Tryz.prog 255 #[.slice A n c,.int .i64 (n:Int)] w fun e w'=>e= .returned (.tuple #[.agg #[.int .i64 0,.slice none 0 0,.string ⟨#[]⟩,.slice none 0 0,.bool false],.int .i64 0,.bool false])∧Below w.heap.size w w':=by
 have K0:=zo (Bk.new w 30 [.int .i64 0,.slice none 0 0,.string ⟨#[]⟩,.slice none 0 0,.bool false]);have H0:Hid (Below w.heap.size w (w.alloc (.cells #[.int .i64 0,.slice none 0 0,.string ⟨#[]⟩,.slice none 0 0,.bool false] 30))):=(zh _ _).alloc (zn _) _;have hk0:¬((n:Int) < 0):=zy;have hk1:((n:Int)≤(n:Int)):=Int.le_refl _;go_enter Tryz.func255,Tryz.ntmps255;go_upto_region 2 with fail
 generalize (w.alloc (.cells #[.int .i64 0,.slice none 0 0,.string ⟨#[]⟩,.slice none 0 0,.bool false] 30))=W at K0 H0 ⊢;obtain⟨bo,Es⟩:∃b,w.heap.size=b:=⟨_,rfl⟩;have HBO:=zo Es;rw[Es] at K0 ⊢;clear Es
 go_wp2_with (refine aN rfl 30 (.tmp 4) (.tmp 16) rfl bo 0 [.int .i64 0,.slice none 0 0,.string ⟨#[]⟩,.slice none 0 0,.bool false] rfl rfl 30 _ K0.out rfl zw (by simp[Value.oneCell']) ?_;intro w3 hk3 hg3;have u7:=zo hk3;have ru:=zo hg3;clear hk3 hg3)
 have y0:=u7.cell 0 rfl;have y1:=u7.cell 1 rfl;have y2:=u7.cell 2 rfl;have y3:=u7.cell 3 rfl;have y4:=u7.cell 4 rfl;refine xx (v:=.tuple #[.agg #[.int .i64 0,.slice none 0 0,.string ⟨#[]⟩,.slice none 0 0,.bool false],.int .i64 0,.bool false]) (by simp[results,Tryz.results255,go_sem,y0,y1,y2,y3,y4]) rfl ⟨rfl,?_⟩
 exact H0.grown ru.out H0.size fun q e=>by have h2:bo=q:=zq e;have:=HBO.out;omega
def og (B:Nat)(q:Nat→Prop)(A:Option Addr)(c:Nat)(l:List UInt8)(W:World):Prop:=eT W∧Rd W q A (bs l)∧Bk W B 22 [.slice A l.length c]
theorem og.after {B c:Nat}{q:Nat→Prop}{A:Option Addr}{l:List UInt8}{W W':World}(h:og B q A c l W)(hb:Below W.heap.size W W'):og B q A c l W':=⟨h.1.after hb,h.2.1.after hb,h.2.2.after hb⟩
theorem aaN {B c n:Nat}{q:Nat→Prop}{A:Option Addr}{l:List UInt8}(_hn:1≤n)(hm:l.length≤1000)(hc:l.length≤c)(Kp:World→World→Prop)(hKp:∀W W',Kp W W'→og B q A c l W→og B q A c l W')(hKs:∀W W',Kp W W'→W.heap.size≤W'.heap.size)(w:World)(h:og B q A c l w):
 afB Fence.wide n Tryz.prog 254 #[.pointer (some ⟨B,0,none⟩)] (fun x:jY=>#[.agg (jX x).toArray]) (fun x Wr W=>Lr Wr.heap.size W x) Kp (fun xs=>xs.map (·.1)=items l) (fun pre=>pre.length≤1000) w:=fun l' J Jx W hW hJ hJx hY h0=>by
 have CA:Hid (∀(W1:World) (k:Nat),og B q A c l W1→k < l.length→Calls Tryz.prog 255 #[.slice A l.length c,.int .i64 (k:Int)] W1 fun e w'=>∃x:jY,x.1=dec (l.drop k)∧e= .returned (.tuple #[.agg (jX x).toArray,.int .i64 (((k+x.1.2.1.length:Nat)):Int),.bool true])∧Lr W1.heap.size w' x∧Below W1.heap.size W1 w'):=fun W1 k h1 hk=>V8 h1.1 hk hm hc h1.2.1
 have HI:=zo (h.after hW);have HW:=zo hW.size;have HJA:=zo (show ∀pre W1 W2,J pre W1→Below W1.heap.size W1 W2→J pre W2 from fun pre W1 W2 h hb=>hJ pre W1 _ none h (grownBy_below hb none) (fun r e=>by cases e))
 have HYY:=zo hY;have HKK:=zo (zM hKp hKs);have HJ0:=zo h0;clear h h0 hJ hJx hY hW hKp hKs hc;refine callsIn_of_wp Tryz.func254 rfl trivial ?_ rfl;simp only[Tryz.ntmps254,List.size_toArray,List.length_cons,List.length_nil,Nat.reduceAdd,Nat.reduceSub,Array.replicate_succ,Array.replicate_zero,List.push_toArray,List.append_toArray,List.nil_append,List.cons_append];have hmx:Tryz.prog.follows .mixedOrders=true:=by kernel_rfl
 gi_wp2
 gi_loopw [3] (fun v wr=>∃(k:Nat) (pre:List jY),v= .int .i64 (k:Int)∧k≤l.length∧Hid (pre.map (·.1)++items (l.drop k)=items l)∧Hid (J pre wr)∧Hid (og B q A c l wr)∧Hid (w.heap.size≤wr.heap.size)) (fun v _=>l.length - (intOf v).toNat)
 case atStart=>exact⟨0,[],rfl,zF _,rfl,HJ0.out,HI.out,HW.out⟩
 case round=>
  obtain⟨k,pre,rfl,hk,hS,hj,hI,hs⟩:=hrel;clear HI HJ0 HW;have x0:=hI.2.2.cell 0 rfl;by_cases hlt:k < l.length
  ·have Fx:=zo (CA.out wr k hI.out hlt)
   have hne:l.drop k≠[]:=fun e=>by
    have:=yV List.length e;rw[zH,List.length_nil] at this;omega
   have HD:=zo (zM (jh hne) (jR hne))
   have HSp:Hid (∀x:jY,(pre++[x]).length≤1000):=zo fun x=>by
    have h1:=yV List.length hS.out;have h2:=mI l.length l (zn _);rw[jh hne,zL,yw,zI] at h1;rw[zL];simp only[List.length_cons,List.length_nil];omega
   clear CA hne
   gi_wp2_with (refine⟨trivial,?_⟩;gi_at_call 255;refine (ym.2 Fx.out).mono ?_;rintro e W1 ⟨⟨⟨k1,raw,nm,ops,al⟩,A1,c1,A2,c2⟩,hx,rfl,hv,hb⟩;have hbl:=(zh W1.heap.size W1).alloc (zn _) (.cells #[.int .i64 (k1:Int),.slice A1 raw.length c1,.string (ag nm),.slice A2 ops.length c2,.bool al] 30);have HX:=zo hx;have jq:Hid (Bk (W1.alloc (.cells #[.int .i64 (k1:Int),.slice A1 raw.length c1,.string (ag nm),.slice A2 ops.length c2,.bool al] 30)) W1.heap.size 30 [.int .i64 (k1:Int),.slice A1 raw.length c1,.string (ag nm),.slice A2 ops.length c2,.bool al]):=Bk.new W1 _ _;have HE:=zo ((hI.after hb).after hbl);have HS:=zo (zV (zV hs.out hb.size) hbl.size);obtain⟨fn,tmps,assign,body,hy,hR⟩:=HYY.out pre ((k1,raw,nm,ops,al),A1,c1,A2,c2) wr _ (HSp.out _) hj.out (hb.trans (hbl.mono hb.size)) (hv.after hbl);dsimp only[jX] at hy;have HR:=zo hR;have z0:=jq.cell 0 rfl;have z1:=jq.cell 1 rfl;have z2:=jq.cell 2 rfl;have z3:=jq.cell 3 rfl;have z4:=jq.cell 4 rfl;clear hx hv hb hbl hR)
   have TL:Hid (1≤raw.length∧k+raw.length≤l.length∧(pre++[((k1,raw,nm,ops,al),A1,c1,A2,c2)]).map (·.1)++items (l.drop (k+raw.length))=items l):=by
    have h1:=HD.1;have h2:=HD.2;have h3:(k1,raw,nm,ops,al)=dec (l.drop k):=HX.out;rw[← h3,xI] at h1;rw[← h3,zH] at h2;refine⟨h2.1,?_,?_⟩
    ·have:raw.length≤l.length - k:=h2.2.1;omega
    ·rw[yu,yc,← hS.out,h1];rfl
   clear HX HD z0 z1 z2 z3 z4;refine HR.mono ?_;rintro e W3 (⟨rfl,hJ3,hk3⟩|⟨rfl,hJx3⟩)
   ·have HE3:=zo (HKK.1 _ _ hk3 HE.out);have HS3:=zo (zV HS.out (HKK.2 _ _ hk3));have HJ3:=zo hJ3;clear hJ3 hk3 x0;gi_wp2;go_roundw
    case rel=>exact⟨k+raw.length,_,by rw[Int.natCast_add],TL.2.1,TL.2.2,HJ3.out,HE3.out,HS3.out⟩
    case measure=>
     have h1:=TL.1;simp only[intOf];omega
   ·have HJx:=zo hJx3;clear hJx3;gi_wp2;refine xx (results_none rfl _ _ _) rfl ?_;exact⟨⟨_,rfl⟩,.inr ⟨_,HSp.out _,HJx.out⟩⟩
  ·obtain rfl:k=l.length:=zy;have CAe:=zo (V7 A l.length c wr);have HX:=zo hS.out;rw[wN,qE,wI] at HX;clear CA
   gi_wp2_with (refine⟨trivial,?_⟩;gi_at_call 255;refine (ym.2 CAe.out).mono ?_;rintro e W1 ⟨rfl,hb⟩;have hbl:=(zh W1.heap.size W1).alloc (zn _) (.cells #[.int .i64 0,.slice none 0 0,.string ⟨#[]⟩,.slice none 0 0,.bool false] 30);have HJ1:=zo (HJA.out _ _ _ (HJA.out _ _ _ hj.out hb) hbl);clear hb hbl)
   refine⟨fun f h=>(by cases h),?_⟩
   gi_wp2;refine xx (results_none rfl _ _ _) rfl ?_;exact⟨⟨_,rfl⟩,.inl ⟨pre,HX.out,HJ1.out⟩⟩
end
section
open Go.RowKit Ex
theorem Ti:El Tryz.prog 122 9 (.string ⟨#[]⟩) 1 16:=⟨Tryz.underlying122,zz,rfl,zx⟩
def Ai (o:aG):ByteArray:=⟨(Lj o).toArray⟩
def Jb (l:List ByteArray):List Value:=l.map .string
def mD (l:List aG):List UInt8:=Lib.join (l.map Lj) [44]
theorem amj:∀k:Fin 11,∀r:Fin 9,(ky k.val r.val).length≤3:=by decide+kernel
theorem aim (k r:Nat):(ky k r).length≤3:=by
 by_cases h:k < 11∧r < 9
 ·exact amj ⟨k,h.1⟩ ⟨r,h.2⟩
 ·have:ky k r=[]:=by
   unfold ky
   cases hq:iw (rgT k) r with
   |none=>rfl
   |some x=>
    exfalso;have h1:=(qy hq).1
    have h2:(rgT k).length≤9∧(11≤k→rgT k=[]):=by
     unfold rgT
     cases hk:iw rgS.1 k with
     |none=>simp
     |some y=>
      have h3:=qy hk;refine⟨xu (zY.1 (show rgS.1.all (fun y=>decide (y.length≤9))=true by decide+kernel) y h3.2),fun h4=>?_⟩
      have h5:rgS.1.length=11:=by decide+kernel
      omega
    by_cases h11:11≤k
    ·rw[h2.2 h11] at h1
     cases h1
    ·exact h ⟨zy,zy⟩
  rw[this];simp
theorem Ah (o:aG):(Lj o).length≤20:=by
 have h:=aim o.1.toNat o.2.1.toNat;have h1:=gT o.2.2;have h2:=XN o.2.2;have h3:=XN (o.2.2+2);unfold Lj;split
 ·unfold Sb;split
  ·simp[l5];omega
  ·split<;>omega
  ·simp;omega
  ·simp;omega
 ·unfold opT l5;rw[zI]
  cases Nat.beq o.1.toNat 4<;>simp<;>omega
theorem P5 (l:List aG)(hm:l.length≤3):(mD l).length≤70:=by
 unfold mD
 match l,hm with
 |[],_=>simp[Lib.join]
 |[a],_=>have:=Ah a;simp[Lib.join];omega
 |[a,b],_=>have:=Ah a;have:=Ah b;simp[Lib.join];omega
 |[a,b,c],_=>have:=Ah a;have:=Ah b;have:=Ah c;simp[Lib.join];omega
theorem Zm (A:Option Addr)(l:List aG)(n c:Nat)(w:World)(p:Nat→Prop)(hn:n=l.length)(hm:l.length≤3)(hv:∀o∈l,aP o=true)(hG:eT w)(h:Rd w p A (dD l)):
 Calls Tryz.prog 55 #[.slice A n c] w fun e w'=>e= .returned (.string ⟨(mD l).toArray⟩)∧Below w.heap.size w w':=by
 have C:Hid (∀W (o:aG),o∈l→Below w.heap.size w W→Calls Tryz.prog 107 #[.agg #[.int .i64 o.1,.int .i64 o.2.1,.int .i64 o.2.2]] W fun e w'=>e= .returned (.string (Ai o))∧Below W.heap.size W w'):=fun W o ho hb=>ac0 o (hv o ho) W (hG.after hb)
 have CJ:Hid (∀W A' c',W.ownsRow w.heap.size 9 1 (.slice A' n c') n (Jb (l.map Ai))→Calls Tryz.prog 51 #[.slice A' n c',.string ⟨#[44]⟩] W fun e w'=>e= .returned (.string ⟨(mD l).toArray⟩)∧Below W.heap.size W w'):=fun W A' c' ho=>by
  have hj:Lib.join ((l.map Ai).map (·.data.toList)) (⟨#[44]⟩:ByteArray).data.toList=mD l:=by
   unfold mD;rw[yC];rfl
  have hlen:=P5 l hm;have hr:Rd W (fun _=>True) A' (Jb (l.map Ai)):=Rd.jf ho fun _ _ _=>trivial
  obtain⟨A2,c2,e,hc,_⟩:=bg ho;injection e with e1 e2 e3
  subst e1 e3
  cases hL:l with
  |nil=>
   subst hL;obtain rfl:n=0:=hn;refine (Tryz.strings_Join_none A' c' ⟨#[44]⟩ W).mono ?_;rintro e w' ⟨rfl,rfl⟩;exact⟨rfl,zh _ _⟩
  |cons o t=>
   rw[← hL];have hne:Jb (l.map Ai)≠[]:=by rw[hL];simp[Jb]
   obtain⟨b,q,rfl,_,hcell⟩:=hr.ex hne;have h0:=hcell 0 _ (by rw[hL];rfl)
   have hxs:(l.map Ai).length=n:=by rw[zI];exact hn.symm
   have:=Tryz.strings_Join b q c' (l.map Ai) ⟨#[44]⟩ W (fun j x hx=>hcell j _ (by simp only[Jb,List.getElem?_map] at hx ⊢;rw[hx];rfl)) (lt_of_cell h0) zy zy (by rw[hj];omega)
   rw[hj,hxs] at this;exact this
 have HR:=zo h;have HN:=zo hn;have hni:(n:Int)≤3:=zy;clear h hn hm hv hG;go_enter Tryz.func55,Tryz.ntmps55;go_wp2
 go_loopw [3,8] (fun v u wr=>∃(k:Nat) (A':Option Addr) (c':Nat),v= .slice A' k c'∧u= .int .i64 (k:Int)∧k≤n∧Hid (wr.ownsRow w.heap.size 9 1 (.slice A' k c') k (Jb ((l.take k).map Ai)))∧Hid (Below w.heap.size w wr)) (fun _ u _=>n - (intOf u).toNat)
 case atStart=>exact⟨0,none,0,rfl,rfl,zF _,yx _ _ _ _,zh _ _⟩
 case round=>
  obtain⟨k,A',c',rfl,rfl,hk,hO,hw⟩:=hrel;by_cases hlt:k < n
  ·have hk1:k < l.length:=by rw[← HN.out];exact hlt
   obtain⟨o,ho⟩:∃o,l[k]? =some o:=⟨_,zg hk1⟩;obtain⟨q,off,rfl,_,c0,c1,c2⟩:=(HR.after hw.out).o3 ho
   have HT:Hid (Jb ((l.take (k+1)).map Ai)=Jb ((l.take k).map Ai)++[.string (Ai o)]):=by
    show _=_;rw[xh,ho];simp[Jb]
   have HA:Hid (Below w.heap.size w (wr.alloc (.cells #[.int .i64 o.1,.int .i64 o.2.1,.int .i64 o.2.2] 174))):=hw.alloc hw.size _;have CO:=zo (C.out (wr.alloc (.cells #[.int .i64 o.1,.int .i64 o.2.1,.int .i64 o.2.2] 174)) o (zD ho) HA.out);have Ls:=zo (hO.alloc (.cells #[.int .i64 o.1,.int .i64 o.2.1,.int .i64 o.2.2] 174));have HS:=zo hw.size;clear ho C CJ;generalize Ai o=S at CO HT;generalize o.1=k0 at c0 c1 c2 HA CO Ls;generalize o.2.1=r0 at c0 c1 c2 HA CO Ls;generalize o.2.2=n0 at c0 c1 c2 HA CO Ls
   go_wp2_with (first
    |(go_at_call 107;refine CO.mono ?_;rintro e w2 ⟨rfl,hb⟩;have HB:=zo (HA.trans (hb.mono HA.size));have O2:=zo (own_below Ls.out hb (zn _));have H2:=zo (zV HA.size hb.size);clear hb)
    |(at_builtin;go_must (refine bu Ti rfl (.tmp 12) (.tmp 15) rfl w.heap.size _ k _ (fun _=>True) _ 1 1 [.string S] rfl rfl (O2.alloc _) rfl (Rd.new _ _ _ trivial) (by simp[Value.oneCell']) (by simp only[maxLen];omega) zy (by simp;have:=H2.out;omega) ?_;intro v3 w3 hown3 hg3 Z6 hz3;obtain⟨A3,c3,rfl,_⟩:=bg hown3;have O3:=zo hown3;have B3:=zo ((HB.alloc HB.size _).grown hg3 (by have:=HB.size;simp;omega) (fun q hq=>by have:=(O2.lt q hq).1;omega));clear hown3 hg3 Z6 hz3)))
   go_roundw
   case rel=>exact⟨k+1,A3,c3,rfl,by go_num,zy,by rw[Hid,HT.out];exact O3.out,B3.out⟩
   case measure=>simp[intOf];omega
  ·obtain rfl:k=n:=zy
   have hO':wr.ownsRow w.heap.size 9 1 (.slice A' k c') k (Jb (l.map Ai)):=by
    have:=hO.out;rw[yn (by rw[← HN.out];exact zn _)] at this
    exact this
   have CX:=zo (CJ.out wr A' c' hO');clear C CJ hO' HR
   go_wp2_with (go_at_call 51;refine CX.mono ?_;rintro e w2 ⟨rfl,hb⟩;have HB:=zo (hw.trans (hb.mono hw.size));clear hb)
   go_ret;exact⟨rfl,HB.out⟩
def uX (w:World)(s:ByteArray)(A:Option Addr)(n c:Nat)(y:Bool):Prop:=∀W,Below w.heap.size w W→Calls Tryz.prog 58 #[.agg #[.string s,.slice A n c]] W fun e w'=>∃(p0 o0:Int) (nm0 ex0:ByteArray) (A0:Option Addr) (n0 c0:Nat) (al0:Bool) (code:Int),e= .returned (.tuple #[.agg #[.int .i64 p0,.int .u8 o0,.string nm0,.slice A0 n0 c0,.string ex0,.bool al0],.int .i64 code])∧(code != 0)= !y∧Below W.heap.size W w'
theorem uX.after {w w':World}{s:ByteArray}{A:Option Addr}{n c:Nat}{y:Bool}(h:uX w s A n c y)(hb:Below w.heap.size w w'):uX w' s A n c y:=fun W hW=>h W (hb.trans (hW.mono hb.size))
theorem Qo (s:ByteArray)(A:Option Addr)(n c:Nat)(y:Bool)(w:World)(hF:uX w s A n c y):Calls Tryz.prog 101 #[.agg #[.string s,.slice A n c]] w fun e w'=>e= .returned (.bool !y)∧Below w.heap.size w w':=by
 have HA:Hid (∀o:Obj,Below w.heap.size w (w.alloc o)):=fun o=>(zh _ _).alloc (zn _) o
 have HF:=zo hF;clear hF;go_enter Tryz.func101,Tryz.ntmps101
 go_wp2_with (go_at_call 58;refine (HF.out _ (HA.out _)).mono ?_;rintro e w1 ⟨p0,o0,nm0,ex0,A0,n0,c0,al0,code,rfl,hy,hb⟩;have HB:=zo ((HA.out _).trans (hb.mono (HA.out _).size));have HY:=zo hy;clear hb hy)
 go_ret;exact⟨by rw[HY.out];rfl,HB.alloc HB.size _⟩
theorem aeq (g:Nat)(s:ByteArray)(A:Option Addr)(n c:Nat)(y:Bool)(w:World)(h0:w.cell? ⟨g,0,none⟩=some (.string s))(h1:w.cell? ⟨g,1,none⟩=some (.slice A n c))(hF:uX w s A n c y):
 Calls Tryz.prog 169 #[.slice (some ⟨g,0,none⟩) 1 1,.func (.func 101) #[] #[]] w fun e w'=>e= .returned (.int .i64 (if y then -1 else 0))∧Below w.heap.size w w':=by
 have C:=zo (Qo s A n c y w hF);clear hF
 cases y with
 |false=>
  go_enter Tryz.func169,Tryz.ntmps169;go_wp2;refine xG 1 ?_;rw[y7]
  go_wp2_with (go_at_call 101;refine C.mono ?_;rintro e w1 ⟨rfl,hb⟩;have HB:=zo hb;clear hb)
  go_ret;exact⟨rfl,HB.out⟩
 |true=>
  go_enter Tryz.func169,Tryz.ntmps169;go_wp2;refine xG 2 ?_;rw[y7]
  go_wp2_with (go_at_call 101;refine C.mono ?_;rintro e w1 ⟨rfl,hb⟩;have HB:=zo hb;clear hb)
  rw[y7];go_wp2;go_ret;exact⟨rfl,HB.out⟩
theorem Vx (g:Nat)(s:ByteArray)(A:Option Addr)(n c:Nat)(y:Bool)(w:World)(h0:w.cell? ⟨g,0,none⟩=some (.string s))(h1:w.cell? ⟨g,1,none⟩=some (.slice A n c))(hF:uX w s A n c y):
 Calls Tryz.prog 52 #[.slice (some ⟨g,0,none⟩) 1 1] w fun e w'=>e= .returned (.bool y)∧Below w.heap.size w w':=by
 have C1:=zo (aeq g s A n c y w h0 h1 hF)
 have C2:Hid (Calls Tryz.prog 100 #[.slice (some ⟨g,0,none⟩) 1 1,.func (.func 101) #[] #[]] w fun e w'=>e= .returned (.bool !y)∧Below w.heap.size w w'):=by
  clear hF h0 h1;show Calls _ _ _ _ _;obtain⟨z,hz⟩:∃z:Int,(if y then -1 else 0)=z:=⟨_,rfl⟩
  have hd:decide (0≤z)= !y:=by rw[← hz];cases y<;>rfl
  rw[hz] at C1;go_enter Tryz.func100,Tryz.ntmps100
  go_wp2_with (go_at_call 169;refine C1.mono ?_;rintro e w1 ⟨rfl,hb⟩;have HB:=zo hb;clear hb)
  go_ret;exact⟨rfl,HB.out⟩
 clear C1 hF h0 h1;have hy:(!(!y))=y:=Bool.not_not y;go_enter Tryz.func52,Tryz.ntmps52
 go_wp2_with (go_at_call 100;refine C2.mono ?_;rintro e w1 ⟨rfl,hb⟩;have HB:=zo hb;clear hb)
 go_ret;exact⟨zw,HB.out⟩
def shX (nm:List Nat)(l:List aG):List UInt8:=Lib.trimSuffix (l5 nm++32::mD l) [32]
theorem Py (nm:List Nat)(A:Option Addr)(n c:Nat)(lc:List aG)(w:World)(hF:uX w (ag nm) A n c true)
 (hC:∀W,Below w.heap.size w W→Calls Tryz.prog 53 #[.agg #[.string (ag nm),.slice A n c]] W fun e w'=>∃A' c',e= .returned (.agg #[.string (ag nm),.slice A' lc.length c'])∧Ow w' W.heap.size A' lc∧Below W.heap.size W w')
 (hv:∀o∈lc,aP o=true) (hm:lc.length≤3) (hs:(ag nm).size≤10) (hG:eT w):
 Calls Tryz.prog 19 #[.agg #[.string (ag nm),.slice A n c]] w fun e w'=>e= .returned (.string ⟨(shX nm lc).toArray⟩)∧Below w.heap.size w w':=by
 obtain⟨S,hS⟩:∃S,ag nm=S:=⟨_,rfl⟩;obtain⟨O,hO⟩:∃O:ByteArray,(⟨(mD lc).toArray⟩:ByteArray)=O:=⟨_,rfl⟩
 have hOz:O.size≤70:=by
  rw[← hO];show (mD lc).toArray.size≤70
  simpa using P5 lc hm
 have CL:Hid (∀W A' c',Below w.heap.size w W→Rd W (fun _=>True) A' (dD lc)→Calls Tryz.prog 55 #[.slice A' lc.length c'] W fun e w'=>e= .returned (.string O)∧Below W.heap.size W w'):=fun W A' c' hb hr=>by
  rw[← hO];exact Zm A' lc lc.length c' W _ rfl hm hv (hG.after hb) hr
 have CT:Hid (∀W,Calls Tryz.prog 54 #[.string (S++⟨#[32]⟩++O),.string ⟨#[32]⟩] W fun e w'=>e= .returned (.string ⟨(shX nm lc).toArray⟩)∧w'=W):=fun W=>by
  have hz:(S++⟨#[32]⟩++O).size≤9223372036854775807:=by
   rw[vR,vR];have:(⟨#[32]⟩:ByteArray).size=1:=rfl;rw[hS] at hs;omega
  have:=Tryz.strings_TrimSuffix (S++⟨#[32]⟩++O) ⟨#[32]⟩ W hz
  have e:(S++⟨#[32]⟩++O).data.toList=l5 nm++32::mD lc:=by
   rw[← hS,← hO];simp[ByteArray.data_append,ag,l5]
  rw[e] at this;exact this
 rw[hS] at hF hC hs;rw[hS];clear hv hm hG hS hO;have HF:=zo hF;have HC:=zo hC;have HA:Hid (∀o:Obj,Below w.heap.size w (w.alloc o)):=fun o=>(zh _ _).alloc (zn _) o
 clear hF hC;go_enter Tryz.func19,Tryz.ntmps19;go_upto_region 1 with fail
 have K1:Hid (Bk (w.alloc (.cells #[.string S,.slice A n c] 28)) w.heap.size 28 [.string S,.slice A n c]):=Bk.new w _ _;have HB:=zo (HA.out (.cells #[.string S,.slice A n c] 28));generalize w.alloc (.cells #[.string S,.slice A n c] 28)=W0 at K1 HB ⊢;have x0:=K1.cell 0 rfl;have x1:=K1.cell 1 rfl;have HB1:Hid (Below w.heap.size w (W0.alloc (.cells #[.string S,.slice A n c] 28))):=HB.alloc HB.size _
 have CX:Hid (Calls Tryz.prog 52 #[.slice (some ⟨W0.heap.size,0,none⟩) 1 1] (W0.alloc (.cells #[.string S,.slice A n c] 28)) fun e w'=>e= .returned (.bool true)∧Below (W0.alloc (.cells #[.string S,.slice A n c] 28)).heap.size (W0.alloc (.cells #[.string S,.slice A n c] 28)) w'):=
  Vx W0.heap.size S A n c true _ ((Bk.new W0 28 [.string S,.slice A n c]).cell 0 rfl) ((Bk.new W0 28 [.string S,.slice A n c]).cell 1 rfl) (uX.after HF.out HB1.out)
 clear HA HF;go_upto_region 3 with (go_at_call 52;refine CX.mono ?_;rintro e w1 ⟨rfl,hb⟩;have HB2:=zo (HB1.trans (hb.mono HB1.size));have K2:=zo ((K1.alloc (.cells #[.string S,.slice A n c] 28)).after hb);clear hb)
 have y0:=K2.cell 0 rfl;have y1:=K2.cell 1 rfl;clear x0 x1 K1 CX HB1;go_upto_region 4 with (go_at_call 53;refine (HC.out _ HB2.out).mono ?_;rintro e w2 ⟨A2,c2,rfl,ho,hb⟩;have HB3:=zo (HB2.trans (hb.mono HB2.size));have HO:=zo ho;clear hb ho)
 have K3:Hid (Bk (w2.alloc (.cells #[.string S,.slice A2 lc.length c2] 28)) w2.heap.size 28 [.string S,.slice A2 lc.length c2]):=Bk.new w2 _ _;have HB4:Hid (Below w.heap.size w (w2.alloc (.cells #[.string S,.slice A2 lc.length c2] 28))):=HB3.alloc HB3.size _;have HR:Hid (Rd (w2.alloc (.cells #[.string S,.slice A2 lc.length c2] 28)) (fun _=>True) A2 (dD lc)):=(HO.rd.mono fun _ _ _=>trivial).after ((zh _ _).alloc (zn _) _)
 obtain⟨b3,hb3⟩:∃b,w2.heap.size=b:=⟨_,rfl⟩;rw[hb3] at K3 ⊢;generalize w2.alloc (.cells #[.string S,.slice A2 lc.length c2] 28)=W3 at K3 HB4 HR ⊢;have HD:=zo (aL HB4.out);have CLx:=zo (CL.out W3.drew A2 c2 HD.out (HR.after (aL (zh W3.heap.size W3))));have x0:=K3.cell 0 rfl;have x1:=K3.cell 1 rfl;have h9:¬9223372036854775807 < S.size+1:=zy;have h10:¬9223372036854775807 < S.size+1+O.size:=zy;clear CL HC HO HR HB HB2 HB3 K2 y0 y1 hb3 hs
 go_region_held3 (fun w'=>w'.cell? ⟨b3,0,none⟩=some (.string S)∧w'.cell? ⟨b3,1,none⟩=some (.slice A2 lc.length c2)) (first|assumption|go_keep) (first|(go_at_call 55;refine CLx.mono ?_;rintro e w4 ⟨rfl,hb⟩;have HB5:=zo (HD.trans (hb.mono HD.size));have K5:=zo (K3.drew.after hb);have z0:=K5.cell 0 rfl;have z1:=K5.cell 1 rfl;clear hb)|(go_at_call 54;refine (CT.out _).mono ?_;rintro e w5 ⟨rfl,rfl⟩))
 all_goals
  go_wp2;go_ret;exact⟨rfl,HB5.out⟩
def pg (c:UInt8):Pc:=([],4,[c],0)
def pw (t:List UInt8):Pc:=([],1,t,0)
def nu (n:Nat):Pc:=([],2,[],n)
def Uz (n:Int):List Pc:=if n < 0 then [pg 45,nu (-n).toNat] else [pg 43,nu n.toNat]
def tQ (o:aG):List Pc:=match o.1 with
 |4=>[pg 40,pw (l5 (ky 4 o.2.1.toNat)),pg 41]
 |5=>pg 40::pw (l5 (ky 5 o.2.1.toNat))::(Uz o.2.2++[pg 41])
 |6=>[nu o.2.2.toNat]
 |7=>[pg 40,nu o.2.2.toNat,pg 41]
 |10=>pg 36::Uz (o.2.2+2)
 |k=>[pw (l5 (ky k.toNat o.2.1.toNat))]
def F7:List Pc→List UInt8→Prop
 |[],_=>True
 |p::l,m=>F8 p (oF l++m)∧F7 l m
theorem tJ:∀a b:List Pc,oF (a++b)=oF a++oF b
 |[],_=>rfl
 |p::a,b=>by
  show p.1++pT p++oF (a++b)=p.1++pT p++oF a++oF b;rw[tJ a b,yc (p.1++pT p)]
theorem Fs:∀{a b:List Pc} {m:List UInt8},F7 a (oF b++m)→F7 b m→F7 (a++b) m
 |[],_,_,_,h=>h
 |p::a,b,m,h1,h2=>⟨by show F8 p (oF (a++b)++m);rw[tJ,yc];exact h1.1,Fs h1.2 h2⟩
theorem TI:∀{l:List Pc},F7 l []→OL l
 |[],_=>trivial
 |p::l,h=>⟨by have:=h.1;rwa [wI] at this,TI h.2⟩
theorem tH {c:UInt8}(h:c∈jM)(h36:c≠36)(m:List UInt8):F8 (pg c) m:=⟨by simp[pg],.inr (.inr (.inr ⟨rfl,rfl,c,rfl,h,fun e=>absurd e h36⟩))⟩
theorem Sa {n:Nat}(h:n≤65535){m:List UInt8}(hm:∀c,m.head? =some c→iO c=false):F8 (nu n) m:=⟨by simp[nu],.inr (.inr (.inl ⟨rfl,rfl,h,hm⟩))⟩
def pwB:List UInt8→Bool
 |c::r=>Cu c && r.all iO
 |[]=>false
theorem R3 {t:List UInt8}(h:pwB t=true∨t=[65,70,39]){m:List UInt8}(hm:∀c,m.head? =some c→iO c=false∧c≠39):F8 (pw t) m:=by
 refine⟨by simp[pw],?_⟩
 rcases h with h|h
 ·cases t with
  |nil=>cases h
  |cons c r=>
   simp only[pwB,Bool.and_eq_true,List.all_eq_true] at h;exact .inl ⟨rfl,rfl,⟨c,r,rfl,h.1,h.2⟩,hm⟩
 ·exact .inr (.inl ⟨rfl,rfl,h⟩)
theorem sO {n:Int}(_h1: -65535≤n)(_h2:n≤65535):oF (Uz n)=BS n:=by
 unfold Uz BS;split
 ·rename_i h;show []++[45]++([]++textOf (((-n).toNat:Nat):Int)++[])=_;rw[xP zy];simp
 ·rename_i h;show []++[43]++([]++textOf ((n.toNat:Nat):Int)++[])=_;rw[xP zy];simp
theorem XO {n:Int}(_h1: -65535≤n)(_h2:n≤65535){m:List UInt8}(hm:∀c,m.head? =some c→iO c=false):F7 (Uz n) m:=by
 unfold Uz;split
 ·exact⟨tH zx zx _,Sa zy hm,trivial⟩
 ·exact⟨tH zx zx _,Sa zy hm,trivial⟩
theorem amh:∀k:Fin 11,∀r:Fin 9,aP ((k.val:Int),(r.val:Int),0)=true→k.val ∉ [6,7,10]→pwB (l5 (ky k.val r.val))=true∨l5 (ky k.val r.val)=[65,70,39]:=by decide+kernel
theorem qg {o:aG}(h:aP o=true):∃k r:Nat,k < 11∧r < 9∧o.1=k∧o.2.1=r∧aP ((k:Int),(r:Int),0)=true∧ -32768≤o.2.2∧o.2.2≤65535∧(k=5∨k=10→ -128≤o.2.2∧o.2.2≤127):=by
 obtain⟨k,r,n⟩:=o;have h0:=h;unfold aP at h;split at h
 ·cases h
 ·rename_i rs lo hi hk;simp only[Bool.and_eq_true,List.contains_iff_mem,decide_eq_true_eq] at h;obtain⟨h1,h2,h3⟩:=h;dsimp only at hk h1 h2 h3 ⊢
  have key:∀(k':Nat),k=k'→k' < 11→lo≤0→0≤hi→0≤r→r < 9→ -32768≤lo→hi≤65535→(k'=5∨k'=10→lo= -128∧hi=127)→∃k2 r2:Nat,k2 < 11∧r2 < 9∧k=k2∧r=r2∧aP ((k2:Int),(r2:Int),0)=true∧ -32768≤n∧n≤65535∧(k2=5∨k2=10→ -128≤n∧n≤127):=fun k' e hk1 hl hh hr1 hr2 hl2 hh2 h5=>by
   obtain⟨r2,rfl⟩:=vg hr1;refine⟨k',r2,hk1,zy,e,rfl,?_,zy,zy,fun h=>?_⟩
   ·unfold aP;rw[← e,hk];simp only[Bool.and_eq_true,List.contains_iff_mem,decide_eq_true_eq];exact⟨h1,hl,hh⟩
   ·have:=h5 h;omega
  unfold lC at hk;split at hk<;>first|(cases hk;done)|skip
  all_goals
   injection hk with hk'
   injection hk' with q1 hk'
   injection hk' with q2 q3
   subst q1 q2 q3;simp only[List.mem_cons,List.not_mem_nil,or_false] at h1
  case h_1=>exact key 1 rfl zy zy zy zy zy zy zy zy
  case h_2=>exact key 2 rfl zy zy zy zy zy zy zy zy
  case h_3=>exact key 3 rfl zy zy zy zy zy zy zy zy
  case h_4=>exact key 4 rfl zy zy zy zy zy zy zy zy
  case h_5=>exact key 5 rfl zy zy zy zy zy zy zy (fun _=>⟨rfl,rfl⟩)
  case h_6=>exact key 6 rfl zy zy zy zy zy zy zy zy
  case h_7=>exact key 7 rfl zy zy zy zy zy zy zy zy
  case h_8=>exact key 8 rfl zy zy zy zy zy zy zy zy
  case h_9=>exact key 9 rfl zy zy zy zy zy zy zy zy
  case h_10=>exact key 10 rfl zy zy zy zy zy zy zy (fun _=>⟨rfl,rfl⟩)
theorem apR {k r:Nat}(n:Int)(hk:k=1∨k=2∨k=3∨k=8∨k=9):Lj ((k:Int),(r:Int),n)=l5 (ky k r)∧tQ ((k:Int),(r:Int),n)=[pw (l5 (ky k r))]:=by
 rcases hk with rfl|rfl|rfl|rfl|rfl<;>exact⟨rfl,rfl⟩
theorem YG {o:aG}(hv:aP o=true)(hn:o.1=6→0≤o.2.2):oF (tQ o)=Lj o∧∀{m:List UInt8},(∀c,m.head? =some c→c=44)→F7 (tQ o) m:=by
 obtain⟨k,r,hk,hr,e1,e2,h0,h1,h2,h3⟩:=qg hv;obtain⟨k',r',n⟩:=o;dsimp only at e1 e2 hn h1 h2 h3;subst e1 e2;have hw:=amh ⟨k,hk⟩ ⟨r,hr⟩ h0;have hq:∀{c:UInt8} {m:List UInt8},iO c=false→∀x,(c::m).head? =some x→iO x=false:=fun h x hx=>by rw[← zq hx];exact h
 have hq2:∀{c:UInt8} {m:List UInt8},iO c=false∧c≠39→∀x,(c::m).head? =some x→iO x=false∧x≠39:=fun h x hx=>by rw[← zq hx];exact h
 have ht:∀n:Int,0≤n→textOf ((n.toNat:Nat):Int)=textOf n:=fun n h=>by rw[xP h]
 have fin:∀k':Nat,(k'=1∨k'=2∨k'=3∨k'=8∨k'=9)→(pwB (l5 (ky k' r))=true∨l5 (ky k' r)=[65,70,39])→oF (tQ ((k':Int),(r:Int),n))=Lj ((k':Int),(r:Int),n)∧∀{m:List UInt8},(∀c,m.head? =some c→c=44)→F7 (tQ ((k':Int),(r:Int),n)) m:=fun k' hk' hw'=>by
  obtain⟨q1,q2⟩:=apR (r:=r) n hk';rw[q1,q2];exact⟨by show []++l5 (ky k' r)++[]=_;simp,fun {m} hm=>⟨R3 hw' (fun c hc=>by rw[hm c hc];decide),trivial⟩⟩
 match k,hk with
 |0,_=>exact absurd h0 (by simp[aP,lC])
 |4,_=>
  refine⟨?_,fun {m} hm=>⟨tH zx zx _,R3 (hw zw) (hq2 zx),tH zx zx _,trivial⟩⟩
  show []++[40]++([]++l5 (ky 4 r)++([]++[41]++[]))=l5 (opT 4 r);simp[opT,l5]
 |5,_=>
  have hb:=h3 (.inl rfl);refine⟨?_,fun {m} hm=>⟨tH zx zx _,R3 (hw zw) ?_,Fs (XO (n:=n) zy zy (hq zx)) ⟨tH zx zx _,trivial⟩⟩⟩
  ·show []++[40]++([]++l5 (ky 5 r)++oF (Uz n++[pg 41]))=40::(l5 (ky 5 r)++BS n++[41]);rw[tJ,sO (n:=n) zy zy];simp[oF,pT,pg]
  ·rw[tJ,sO (n:=n) zy zy];unfold BS;split
   ·exact hq2 zx
   ·exact hq2 zx
 |6,_=>
  have hb:=hn rfl;refine⟨?_,fun {m} hm=>⟨Sa (n:=n.toNat) zy (fun c hc=>by rw[hm c hc];decide),trivial⟩⟩
  show []++textOf ((n.toNat:Nat):Int)++[]=if n < 0 then BS n else textOf n
  rw[ht n hb,za zy];simp
 |7,_=>
  have hb:0≤n:=by
   have:=hv;simp[aP,lC] at this;omega
  refine⟨?_,fun {m} hm=>⟨tH zx zx _,Sa (n:=n.toNat) zy (hq zx),tH zx zx _,trivial⟩⟩
  show []++[40]++([]++textOf ((n.toNat:Nat):Int)++([]++[41]++[]))=40::(textOf n++[41]);rw[ht n hb];simp
 |10,_=>
  have hb:=h3 (.inr rfl);refine⟨?_,fun {m} hm=>⟨⟨by simp[pg],.inr (.inr (.inr ⟨rfl,rfl,36,rfl,zx,fun _=>?_⟩))⟩,XO (n:=n+2) zy zy (fun c hc=>by rw[hm c hc];decide)⟩⟩
  ·show []++[36]++oF (Uz (n+2))=36::BS (n+2);rw[sO (n:=n+2) zy zy];rfl
  ·rw[sO (n:=n+2) zy zy];unfold BS;split
   ·exact hq zx
   ·exact hq zx
 |1,_=>exact fin 1 zx (hw zw)
 |2,_=>exact fin 2 zx (hw zw)
 |3,_=>exact fin 3 zx (hw zw)
 |8,_=>exact fin 8 zx (hw zw)
 |9,_=>exact fin 9 zx (hw zw)
def Ul (b:UInt8):ByteArray:=⟨(textOf (b.toNat:Int)).toArray⟩
def daX (d:List UInt8):List UInt8:=[68,69,70,66,32]++Lib.join (d.map fun b=>textOf (b.toNat:Int)) [44]
theorem agP (d:List UInt8)(hm:d.length≤4):(Lib.join (d.map fun b=>textOf (b.toNat:Int)) [44]).length≤30:=by
 match d,hm with
 |[],_=>simp[Lib.join]
 |[a],_=>have:=gT a.toNat;simp[Lib.join];omega
 |[a,b],_=>have:=gT a.toNat;have:=gT b.toNat;simp[Lib.join];omega
 |[a,b,c],_=>have:=gT a.toNat;have:=gT b.toNat;have:=gT c.toNat;simp[Lib.join];omega
 |[a,b,c,e],_=>have:=gT a.toNat;have:=gT b.toNat;have:=gT c.toNat;have:=gT e.toNat;simp[Lib.join];omega
theorem We (g:Nat)(A':Option Addr)(k c':Nat)(xs:List Value)(gs:Nat)(S:ByteArray)(B:Nat)(w:World)(hg:Bk w g 122 [.slice A' k c'])(ho:w.ownsRow B 9 1 (.slice A' k c') k xs)(hgs:w.cell? ⟨gs,0,none⟩=some (.string S))(hgB:g < B)(hB:B≤w.heap.size)(_hk:k≤100):
 Calls Tryz.prog 49 #[.slice (some ⟨gs,0,none⟩) 1 1,.pointer (some ⟨g,0,none⟩)] w fun e w'=>e= .returned (.tuple #[])∧∃A2 c2,Bk w' g 122 [.slice A2 (k+1) c2]∧w'.ownsRow B 9 1 (.slice A2 (k+1) c2) (k+1) (xs++[.string S])∧Below g w w':=by
 have HG:=zo hg;have HO:=zo ho;have x0:=HG.cell 0 rfl
 have HR:Hid (Rd w (fun _=>True) (some ⟨gs,0,none⟩) [.string S]):=fun _=>⟨_,rfl,trivial,fun j u hu=>by
  cases j with
  |zero=>exact (zq hu) ▸ hgs
  |succ j=>cases hu⟩
 clear hg ho hgs;go_enter Tryz.func49,Tryz.ntmps49
 go_wp2_with (at_builtin;go_must (refine bu Ti rfl (.tmp 3) (.tmp 4) rfl B _ k _ (fun _=>True) _ 1 1 [.string S] rfl rfl HO.out rfl HR.out (by simp[Value.oneCell']) (by simp only[maxLen];omega) zy hB ?_;intro v3 w3 hown3 hg3 Z6 hz3;obtain⟨A3,c3,rfl,_⟩:=bg hown3;have O3:=zo hown3;have G3:=zo (show Bk w3 g 122 [.slice A' k c'] from (hg3.block g HG.lt fun e=>by have:=(HO.lt g e.symm).1;omega).trans HG.out);have B3:=zo (show Below g w w3 from (zh g w).grown hg3 (xE HG.lt) (fun q hq=>by have:=(HO.lt q hq).1;omega));have y0:=G3.cell 0 rfl;have f0:=G3.frozen 0;clear hown3 hg3 Z6 hz3))
 first|go_end0|refine xx (results_none rfl _ _ _) rfl ?_
 exact⟨rfl,A3,c3,G3.set 0 _,Cm O3.out (grownBy_set w3 g 0 _) hgB,B3.setCell (zn g) _⟩
theorem aaT (A:Option Addr)(d:List UInt8)(n c:Nat)(w:World)(p:Nat→Prop)(hn:d.length=n)(h0:d≠[])(_hm:(n:Int)≤4)(hG:eT w)(h:Rd w p A (bs d)):
 Calls Tryz.prog 18 #[.slice A n c] w fun e w'=>e= .returned (.string ⟨(daX d).toArray⟩)∧Below w.heap.size w w':=by
 have CT:Hid (∀W (b:UInt8),Below w.heap.size w W→Calls Tryz.prog 50 #[.int .i64 (b.toNat:Int)] W fun e w'=>e= .returned (.string (Ul b))∧Below W.heap.size W w'):=fun W b hb=>oM _ W (Dc (hG.after hb))
 have HR:=zo h;have HN:=zo hn;have HNE:=zo h0
 have hnz:¬(n:Int)=0:=by
  rw[← hn];intro e;exact h0 (wh.1 zy)
 have hnb:((n:Int) == 0)=false:=by simpa using hnz
 clear h hn h0 hG;go_enter Tryz.func18,Tryz.ntmps18;go_wp2;obtain⟨g,hg⟩:∃g,w.heap.size=g:=⟨_,rfl⟩;have K0:Hid (Bk (w.alloc (.cells #[.slice none 0 0] 122)) w.heap.size 122 [.slice none 0 0]):=Bk.new w _ _;have HB0:Hid (Below w.heap.size w (w.alloc (.cells #[.slice none 0 0] 122))):=(zh _ _).alloc (zn _) _
 have HS0:Hid (g+1≤(w.alloc (.cells #[.slice none 0 0] 122)).heap.size):=by
  show _≤_;rw[← hg];simp
 rw[hg] at K0 HB0 CT ⊢;generalize w.alloc (.cells #[.slice none 0 0] 122)=W0 at K0 HB0 HS0 ⊢;clear hnz hnb
 go_loopw [13] (fun u wr=>∃(k:Nat) (A':Option Addr) (c':Nat),u= .int .i64 (k:Int)∧k≤n∧Hid (Bk wr g 122 [.slice A' k c'])∧Hid (wr.ownsRow (g+1) 9 1 (.slice A' k c') k (Jb ((d.take k).map Ul)))∧Hid (Below g w wr)∧Hid (g+1≤wr.heap.size)) (fun u _=>n - (intOf u).toNat)
 case atStart=>exact⟨0,none,0,rfl,zF _,K0.out,yx _ _ _ _,HB0.out,HS0.out⟩
 case round=>
  obtain⟨k,A',c',rfl,hk,hK,hO,hw,hS⟩:=hrel;by_cases hlt:k < n
  ·have hk1:k < d.length:=by rw[HN.out];exact hlt
   obtain⟨b,hb⟩:∃b,d[k]=b:=⟨_,rfl⟩;obtain⟨q,off,rfl,_,c0⟩:=(HR.after (by rw[hg];exact hw.out)).byte hk1
   rw[hb] at c0
   have HT:Hid (Jb ((d.take (k+1)).map Ul)=Jb ((d.take k).map Ul)++[.string (Ul b)]):=by
    show _=_;rw[xh,zg hk1,hb];simp[Jb]
   have CX:=zo (CT.out wr b hw.out);have z0:(0:Int)≤(b.toNat:Int):=zy;have z1:(b.toNat:Int)≤255:=by have:=b.toNat_lt;omega
   generalize Ul b=S at CX HT;generalize (b.toNat:Int)=z at c0 CX z0 z1;clear hb CT
   go_wp2_with (first
    |(go_at_call 50;go_fit CX.out;rintro e w2 ⟨rfl,hb⟩;have K2:=zo (hK.after hb);have O2:=zo (own_below hO.out hb (zn _));have B2:=zo (hw.trans (hb.mono (xE (wB hS.out))));have S2:=zo (zV hS.out hb.size);clear hb)
    |(go_at_call 49;refine (We g A' k c' _ w2.heap.size S (g+1) (w2.alloc (.cells #[.string S] 9)) (K2.alloc _) (O2.alloc _) ((Bk.new w2 9 [.string S]).cell 0 rfl) (zS g) (by simp;have:=S2.out;omega) zy).mono ?_;rintro e w3 ⟨rfl,A3,c3,hk3,ho3,hb3⟩;have K3:=zo hk3;have O3:=zo ho3;have B3:=zo ((B2.alloc (xE (wB S2.out)) (.cells #[.string S] 9)).trans hb3);have S3:=zo (zV S2.out (zV (show w2.heap.size≤(w2.alloc (.cells #[.string S] 9)).heap.size by simp) hb3.size));clear hk3 ho3 hb3))
   go_roundw
   case rel=>exact⟨k+1,A3,c3,by go_num,zy,K3.out,by rw[Hid,HT.out];exact O3.out,B3.out,S3.out⟩
   case measure=>simp[intOf];omega
  ·obtain rfl:k=n:=zy;have x0:=hK.cell 0 rfl
   have CJ:Hid (Calls Tryz.prog 51 #[.slice A' k c',.string ⟨#[44]⟩] wr fun e w'=>∃J:ByteArray,e= .returned (.string J)∧(⟨(daX d).toArray⟩:ByteArray)=⟨#[68,69,70,66,32]⟩++J∧J.size≤1000∧Below wr.heap.size wr w'):=by
    have hO':wr.ownsRow (g+1) 9 1 (.slice A' k c') k (Jb (d.map Ul)):=by
     have:=hO.out;rw[yn (by rw[HN.out];exact zn _)] at this
     exact this
    have hj:Lib.join ((d.map Ul).map (·.data.toList)) (⟨#[44]⟩:ByteArray).data.toList=Lib.join (d.map fun b=>textOf (b.toNat:Int)) [44]:=by
     rw[yC];rfl
    have hl:=agP d (by have:=HN.out;omega)
    have hr:Rd wr (fun _=>True) A' (Jb (d.map Ul)):=Rd.jf hO' fun _ _ _=>trivial
    obtain⟨A2,c2,e,hc,_⟩:=bg hO';injection e with e1 e2 e3
    subst e1 e3
    obtain⟨b,q,rfl,_,hcell⟩:=hr.ex (by
     intro e;have:=HNE.out
     cases d with
     |nil=>exact this rfl
     |cons _ _=>simp[Jb] at e)
    have hxs:(d.map Ul).length=k:=by rw[zI];exact HN.out
    have hc0:w.heap.size≤wr.heap.size:=by rw[hg];exact xE (wB hS.out)
    obtain⟨x,hx⟩:∃x,(Jb (d.map Ul))[0]? =some x:=by
     cases d with
     |nil=>exact absurd rfl HNE.out
     |cons y _=>exact⟨.string (Ul y),rfl⟩
    have h0:=hcell 0 x hx;have:=Tryz.strings_Join b q c' (d.map Ul) ⟨#[44]⟩ wr (fun j x hx=>hcell j _ (by simp only[Jb,List.getElem?_map] at hx ⊢;rw[hx];rfl)) (lt_of_cell h0) zy zy (by rw[hj];omega)
    rw[hj,hxs] at this;refine wW this ?_;rintro e w' ⟨rfl,hb⟩;refine⟨_,rfl,?_,?_,hb⟩
    ·apply xn;simp[daX,ByteArray.data_append]
    ·show (Lib.join _ _).toArray.size≤1000;rw[List.size_toArray];omega
   clear CT hO HR
   go_wp2_with (go_at_call 51;refine CJ.mono ?_;rintro e w2 ⟨J,rfl,hJ,hJs,hb⟩;have HJ:=zo hJ;have HB:=zo (hw.trans (hb.mono (xE (wB hS.out))));clear hb hJ)
   go_ret;exact⟨by rw[HJ.out];rfl,by rw[hg];exact HB.out⟩
def Qr:List (List Pc)→List Pc
 |[]=>[]
 |[a]=>a
 |a::l=>a++pg 44::Qr l
def blP (b:List UInt8):List Pc→List Pc
 |[]=>[]
 |p::l=>(b++p.1,p.2)::l
def Qw (nm:List Nat)(l:List aG):List Pc:=([9],1,l5 nm,0)::blP [32] (Qr (l.map tQ))
def OpC (o:aG):Prop:=aP o=true∧(o.1=6→0≤o.2.2)
theorem Qq:∀l:List aG,(∀o∈l,OpC o)→oF (Qr (l.map tQ))=mD l∧F7 (Qr (l.map tQ)) []
 |[],_=>⟨rfl,trivial⟩
 |[o],h=>by
  obtain⟨h1,h2⟩:=YG (h o zw).1 (h o zw).2;exact⟨by show oF (tQ o)=_;rw[h1];simp[mD,Lib.join],h2 (fun c hc=>by cases hc)⟩
 |o::o2::l,h=>by
  obtain⟨h1,h2⟩:=YG (h o zw).1 (h o zw).2;obtain⟨h3,h4⟩:=Qq (o2::l) (fun x hx=>h x (by simp[hx]))
  refine⟨?_,Fs (h2 (fun c hc=>(zq hc).symm)) ⟨tH zx zx _,h4⟩⟩
  show oF (tQ o++pg 44::Qr ((o2::l).map tQ))=_;rw[tJ,h1];show Lj o++([]++[44]++oF (Qr ((o2::l).map tQ)))=_;rw[h3];simp[mD,Lib.join]
theorem TJ {c:UInt8}(h:iO c=true):c≠32:=fun e=>by rw[e] at h;exact absurd h zx
theorem al8 {p:Pc}{m:List UInt8}(h:F8 p m):∀c∈pT p,c≠32:=by
 obtain⟨bl,kd,tx,n⟩:=p;obtain⟨_,⟨rfl,rfl,⟨c,r,e,hc,hr⟩,hm⟩|⟨rfl,rfl,e⟩|⟨rfl,e,hn,hm⟩|⟨rfl,rfl,c,e,hc,hm⟩⟩:=h
 ·dsimp only at e;subst e;intro x hx;rcases zQ.1 hx with rfl|hx
  ·exact TJ ((nI x).2.2 hc)
  ·exact TJ (hr x hx)
 ·dsimp only at e;subst e;intro x hx e;rw[e] at hx;exact absurd hx (by show ¬(32:UInt8)∈[65,70,39];decide)
 ·dsimp only at e hn;subst e;obtain⟨c,r,e,hc,hr⟩:=kY n hn;intro x hx;have hx:x∈textOf (n:Int):=hx;rw[e] at hx;rcases zQ.1 hx with rfl|hx
  ·exact TJ (by unfold iO;rw[hc];simp)
  ·exact TJ (hr x hx)
 ·dsimp only at e;subst e;intro x hx e;rw[e] at hx;obtain rfl:(32:UInt8)=c:=zR.1 hx;exact absurd hc zx
theorem Yq:∀{l:List Pc} {m:List UInt8},F7 l m→(∀p∈l,p.1=[])→∀c∈oF l,c≠32
 |[],_,_,_,c,hc=>by cases hc
 |p::l,m,h,hb,c,hc=>by
  have hc:c∈p.1++pT p++oF l:=hc;rw[hb p zw,xD] at hc;rcases zA.1 hc with hc|hc
  ·exact al8 h.1 c hc
  ·exact Yq h.2 (fun q hq=>hb q (by simp[hq])) c hc
theorem af6 (o:aG):∀p∈tQ o,p.1=[]:=by
 intro p hp;unfold tQ Uz at hp;split at hp
 ·simp only[List.mem_cons,List.not_mem_nil,or_false] at hp;rcases hp with rfl|rfl|rfl<;>rfl
 ·split at hp<;>simp only[List.mem_cons,List.mem_append,List.not_mem_nil,or_false] at hp<;>rcases hp with rfl|rfl|(rfl|rfl)|rfl<;>rfl
 ·rw[zR.1 hp];rfl
 ·simp only[List.mem_cons,List.not_mem_nil,or_false] at hp;rcases hp with rfl|rfl|rfl<;>rfl
 ·split at hp<;>simp only[List.mem_cons,List.not_mem_nil,or_false] at hp<;>rcases hp with rfl|rfl|rfl<;>rfl
 ·rw[zR.1 hp];rfl
theorem ZB:∀l:List aG,∀p∈Qr (l.map tQ),p.1=[]
 |[],p,hp=>by cases hp
 |[o],p,hp=>af6 o p hp
 |o::o2::l,p,hp=>by
  have hp:p∈tQ o++pg 44::Qr ((o2::l).map tQ):=hp;rcases zA.1 hp with hp|hp
  ·exact af6 o p hp
  ·rcases zQ.1 hp with rfl|hp
   ·rfl
   ·exact ZB (o2::l) p hp
theorem amc (o:aG):tQ o≠[]:=by
 unfold tQ;split<;>simp
theorem agp:∀{l:List aG},l≠[]→Qr (l.map tQ)≠[]
 |[],h=>absurd rfl h
 |[o],_=>amc o
 |o::o2::l,_=>by
  show tQ o++pg 44::Qr ((o2::l).map tQ)≠[];simp
theorem afU {nm:List Nat}{l:List aG}(hl:∀o∈l,OpC o)(h0:l≠[]):shX nm l=l5 nm++32::mD l:=by
 obtain⟨h1,h2⟩:=Qq l hl;have h32:=Yq h2 (ZB l);rw[h1] at h32
 have hne:mD l≠[]:=by
  rw[← h1]
  cases hj:Qr (l.map tQ) with
  |nil=>exact absurd hj (agp h0)
  |cons p ps=>
   rw[hj] at h2;obtain⟨_,c,r,e,_⟩:=Xp h2.1 0;show p.1++pT p++oF ps≠[];rw[e];simp
 unfold shX Lib.trimSuffix;rw[za];unfold Lib.hasSuffix;rw[List.isSuffixOf_iff_suffix];rintro ⟨t,ht⟩;obtain⟨ys,y,hy⟩:∃ys y,mD l=ys++[y]:=⟨_,_,(List.dropLast_concat_getLast hne).symm⟩;rw[hy,← xm,← yc] at ht;have:=(List.append_inj' ht rfl).2;exact h32 y (by rw[hy];simp) (List.singleton_inj.1 this).symm
theorem ZI {nm:List Nat}{l:List aG}(hnm:pwB (l5 nm)=true)(hl:∀o∈l,OpC o):oF (Qw nm l)=9::shX nm l∧OL (Qw nm l):=by
 obtain⟨h1,h2⟩:=Qq l hl
 have hw:∀{m:List UInt8},(∀c,m.head? =some c→iO c=false∧c≠39)→F8 ([9],1,l5 nm,0) m:=fun {m} hm=>by
  have:=R3 (.inl hnm) hm;exact⟨by simp[Ap],this.2⟩
 cases hj:Qr (l.map tQ) with
 |nil=>
  have am1:l=[]:=by
   by_cases e:l=[]
   ·exact e
   ·exact absurd hj (agp e)
  subst am1;refine⟨?_,hw (fun c hc=>by cases hc),trivial⟩
  show [9]++l5 nm++[]=9::Lib.trimSuffix (l5 nm++32::mD []) [32];rw[show mD []=[] from rfl,(RN (l5 nm) [32]).2]
  simp
 |cons p ps=>
  rw[hj] at h1 h2;have hp0:p.1=[]:=ZB l p (by rw[hj];simp)
  have hX:oF (Qw nm l)=9::(l5 nm++32::mD l):=by
   unfold Qw;rw[hj,← h1];show [9]++l5 nm++([32]++p.1++pT p++oF ps)=9::(l5 nm++32::(p.1++pT p++oF ps));simp
  refine⟨?_,?_⟩
  ·rw[hX,afU hl];rintro rfl
   cases hj
  ·refine⟨?_,?_⟩
   ·rw[hj];refine hw (fun c hc=>?_)
    have:c=32:=(zq (show some 32=some c from hc)).symm
    rw[this];decide
   ·rw[hj];refine⟨?_,TI h2.2⟩;have h3:=h2.1;rw[wI] at h3;refine⟨fun c hc=>?_,h3.2⟩
    rcases zA.1 hc with hc|hc
    ·rw[zR.1 hc];rfl
    ·exact h3.1 c hc
def daO (d:List UInt8):List aG:=d.map fun b=>(6,0,(b.toNat:Int))
theorem aaU (d:List UInt8):∀o∈daO d,OpC o:=by
 intro o ho;obtain⟨b,_,rfl⟩:=zX.1 ho;have:=b.toNat_lt;refine⟨?_,fun _=>by show (0:Int)≤(b.toNat:Int);omega⟩
 simp[aP,lC];omega
theorem agO {d:List UInt8}(h:d≠[]):daX d=shX [68,69,70,66] (daO d):=by
 rw[afU (aaU d) (by simpa [daO] using h)]
 have e:(daO d).map Lj=d.map fun b=>textOf (b.toNat:Int):=by
  unfold daO;rw[yC];refine yt fun b _=>?_
  have hb:¬(b.toNat:Int) < 0:=zy;show (if (b.toNat:Int) < 0 then BS (b.toNat:Int) else textOf (b.toNat:Int))=_
  rw[za hb]
 unfold mD daX;rw[e];rfl
theorem Pw (k:Int)(A A2:Option Addr)(n c n2 c2:Nat)(s S:ByteArray)(al:Bool)(w:World)(hk:k≠1∨al=true)
 (hC:∀W,Below w.heap.size w W→Calls Tryz.prog 18 #[.slice A n c] W fun e w'=>e= .returned (.string S)∧Below W.heap.size W w'):
 Calls Tryz.prog 7 #[.agg #[.int .i64 k,.slice A n c,.string s,.slice A2 n2 c2,.bool al]] w fun e w'=>e= .returned (.string S)∧Below w.heap.size w w':=by
 have HC:=zo hC;have HA:Hid (∀o:Obj,Below w.heap.size w (w.alloc o)):=fun o=>(zh _ _).alloc (zn _) o
 clear hC;by_cases h:k=1
 ·subst h;obtain rfl:al=true:=hk.resolve_left (fun h=>h rfl)
  clear hk;go_enter Tryz.func7,Tryz.ntmps7
  go_wp2_with (go_at_call 18;refine (HC.out _ (HA.out _)).mono ?_;rintro e w1 ⟨rfl,hb⟩;have HB:=zo ((HA.out _).trans (hb.mono (HA.out _).size));clear hb)
  go_ret;exact⟨rfl,HB.out⟩
 ·have hd:(k != 1)=true:=bne_iff_ne.2 h;clear hk h;go_enter Tryz.func7,Tryz.ntmps7
  go_wp2_with (go_at_call 18;refine (HC.out _ (HA.out _)).mono ?_;rintro e w1 ⟨rfl,hb⟩;have HB:=zo ((HA.out _).trans (hb.mono (HA.out _).size));clear hb)
  go_ret;exact⟨rfl,HB.out⟩
theorem Px (A A2:Option Addr)(n c n2 c2:Nat)(s S:ByteArray)(w:World)
 (hC:∀W,Below w.heap.size w W→Calls Tryz.prog 19 #[.agg #[.string s,.slice A2 n2 c2]] W fun e w'=>e= .returned (.string S)∧Below W.heap.size W w'):
 Calls Tryz.prog 7 #[.agg #[.int .i64 1,.slice A n c,.string s,.slice A2 n2 c2,.bool false]] w fun e w'=>e= .returned (.string S)∧Below w.heap.size w w':=by
 have HC:=zo hC;have HA:Hid (∀o:Obj,Below w.heap.size w (w.alloc o)):=fun o=>(zh _ _).alloc (zn _) o
 clear hC;go_enter Tryz.func7,Tryz.ntmps7
 go_wp2_with (go_at_call 19;refine (HC.out _ (HA.out _)).mono ?_;rintro e w1 ⟨rfl,hb⟩;have HB:=zo ((HA.out _).trans (hb.mono (HA.out _).size));clear hb)
 go_ret;exact⟨rfl,HB.out⟩
end
