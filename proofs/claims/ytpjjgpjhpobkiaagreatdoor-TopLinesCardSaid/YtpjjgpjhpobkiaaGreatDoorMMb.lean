/- The walk of item of the decoder, at the bytes of an entry of the table. -/
import Derived.Test.YtpjjgpjhpobkiaaGreatDoorMK12
set_option maxHeartbeats 8000000
set_option maxRecDepth 100000
namespace Go.Proofs.YtpjjgpjhpobkiaaGreatDoor
open Go.RowKit Ex
theorem MH {W:World}{base:Nat}{e:TypeId}{size:Nat}{v:Value}{k:Nat}{xs:List Value}(h:W.ownsRow base e size v (k+1) xs):∃g cap,v= .slice (some ⟨g,0,none⟩) (k+1) cap:=by
 obtain⟨_,⟨_,h0⟩|⟨g,cap,_,hv,_⟩⟩:=h
 ·omega
 ·exact⟨g,cap,hv⟩
theorem Kv {w:World}{o:Obj}{i:Nat}(h:(w.alloc o).drew.heap.size≤i):w.heap.size+1≤i:=by
 rw[← zU w o];exact h
theorem Av {X Y Z:World}{r:Option Nat}{b:Nat}(h:X.grownBy Y r)(h':Y.grownBy Z (some b))(hb:X.heap.size≤b):X.grownBy Z r:=
 ⟨h'.os.trans h.os,h'.tape.trans h.tape,h'.output.trans h.output,zV h.size h'.size,fun k hk hne=>(h'.block k (zZ hk h.size) fun e=>by have:k=b:=zq e;omega).trans (h.block k hk hne)⟩
structure KY (B:Nat)(w W:World)(bx rb b7:Nat)(A:Option Addr)(N c a:Nat)(pv e0 e1 e2 e3 e4 e5:Value)(d n:Int)(x:gy):Prop where
 bk:Bk W bx 510 (dW A N c a pv e0 e1 e2 e3 e4 e5 d n)
 res:Bk W rb 30 [.int .i64 0,.slice none 0 0,.string ⟨#[]⟩,.slice none 0 0,.bool false]
 iZ:Bk W b7 133 (di x)
 ok:dF B W x
 gr:w.grownBy W (some bx)
 b7:w.heap.size≤b7
section
variable {B:Nat} {w W W':World} {bx rb b7:Nat} {A:Option Addr} {N c a:Nat} {pv e0 e1 e2 e3 e4 e5:Value} {d n:Int} {x:gy}
theorem Ex.gF.keep {B row:Nat}{T:TypeId}{WO:List Value}{w w':World}{A:Option Addr}{c:Nat}{vs:List Value}(h:gF B w A c vs)(hb:Bk w row T WO)(hT:T≠174)(hg:w.grownBy w' (some row)):gF B w' A c vs:=by
 rcases h with h|⟨h0,q,m,cur,rfl,hB,hh,h'⟩
 ·exact .inl h
 ·refine .inr ⟨h0,q,m,cur,rfl,hB,(hg.block q (lt_of_heap hh) fun e=>?_).trans hh,h'⟩
  obtain rfl:=zq e;have h2:w.heap[q]? =some (.cells WO.toArray T (0,0)):=hb;rw[hh] at h2;have:=zq h2;injection this with _ h3
  exact hT h3.symm
theorem dF.keep {B row:Nat}{T:TypeId}{WO:List Value}{w w':World}{x:gy}(h:dF B w x)(hb:Bk w row T WO)(hT:T≠174)(hg:w.grownBy w' (some row)):dF B w' x:=⟨h.d,h.k,h.o,h.r.keep hb hT hg⟩
theorem KY.after (h:KY B w W bx rb b7 A N c a pv e0 e1 e2 e3 e4 e5 d n x)(hb:Below W.heap.size W W'):KY B w W' bx rb b7 A N c a pv e0 e1 e2 e3 e4 e5 d n x:=
 ⟨h.bk.after hb,h.res.after hb,h.iZ.after hb,h.ok.after hb,iG h.gr (grownBy_below hb _),h.b7⟩
theorem KY.air (h:KY B w W bx rb b7 A N c a pv e0 e1 e2 e3 e4 e5 d n x):b7≠bx:=fun e=>by
 have h1:W.heap[b7]? =some (.cells (di x).toArray 133 (0,0)):=h.iZ;have h2:W.heap[bx]? =some (.cells (dW A N c a pv e0 e1 e2 e3 e4 e5 d n).toArray 510 (0,0)):=h.bk;rw[e,h2] at h1;have:=zq h1;injection this with _ h3
 exact absurd h3 zx
theorem KY.aiq (h:KY B w W bx rb b7 A N c a pv e0 e1 e2 e3 e4 e5 d n x):b7≠rb:=fun e=>by
 have h1:W.heap[b7]? =some (.cells (di x).toArray 133 (0,0)):=h.iZ;have h2:W.heap[rb]? =some (.cells _ 30 (0,0)):=h.res;rw[e,h2] at h1;have:=zq h1;injection this with _ h3
 exact absurd h3 zx
theorem KY.write (h:KY B w W bx rb b7 A N c a pv e0 e1 e2 e3 e4 e5 d n x)(hne:rb≠bx){a':Nat}{e0' e1' e2' e3' e4' e5':Value}{d' n':Int}(hb:Bk W' bx 510 (dW A N c a' pv e0' e1' e2' e3' e4' e5' d' n'))(hg:W.grownBy W' (some bx)):KY B w W' bx rb b7 A N c a' pv e0' e1' e2' e3' e4' e5' d' n' x:=
 ⟨hb,(hg.block rb h.res.lt fun e=>hne (zq e)).trans h.res,(hg.block b7 h.iZ.lt fun e=>h.air (zq e)).trans h.iZ,h.ok.keep h.bk zx hg,iG h.gr hg,h.b7⟩
theorem KY.below {w0:World}(h:KY B w W bx rb b7 A N c a pv e0 e1 e2 e3 e4 e5 d n x)(hb0:Below w0.heap.size w0 w)(hbx:w0.heap.size≤bx):Below w0.heap.size w0 W:=hb0.grown h.gr hb0.size fun k e=>by rw[← zq e];exact hbx
theorem Fv.iZ {pf:List Nat}{AP:Option Addr}{cP r:Nat}{b:Nat}(h:Fv w W bx rb A N c r pf AP cP e0 e1 e2 e3 e4 e5 d n)(hb:Below W.heap.size W W')(hx:dF b W' x)(hB:B≤b):KY B w (W'.alloc (.cells (di x).toArray 133)) bx rb W'.heap.size A N c r (.slice AP pf.length cP) e0 e1 e2 e3 e4 e5 d n x:=by
 have h':=h.after hb;have ha:=(zh W'.heap.size W').alloc (zn _) (.cells (di x).toArray 133);exact⟨h'.bk.after ha,h'.res.after ha,Bk.new W' _ _,(hx.mono hB).after ha,iG h'.gr (grownBy_below ha _),h'.gr.size⟩
end
theorem Nr {w0:World}(hG:eT w0)(p o:Nat)(d:bL)(hp:p≤6)(ho:o < 256)(hd:jd p o=some d)(hk:d.1=1)(dv nv:Int)(hdv:FO (kQ d) dv=true)(hnv:FO (l8 d) nv=true)(V:List Value)(a1:Nat)(hH:ItH p o d.2.2.1 dv nv V a1)(h1:∀u∈V,u.oneCell'=true)(A:Option Addr)(N c:Nat)(hN:V.length=N)(hm:(N:Int)≤1000)(hc:N≤c)(ha1:1≤a1)(haN:a1≤N)(bx:Nat)(w:World)(q:Nat→Prop)
 (hb:Bk w bx 510 (dW A N c 0 (.slice none 0 0) (.int .i64 0) (.int .u8 0) (.string ⟨#[]⟩) (.slice none 0 0) (.string ⟨#[]⟩) (.bool false) 0 0)) (hbx:w0.heap.size≤bx) (hb0:Below w0.heap.size w0 w) (hr:Rd w0 q A V):
 Calls Tryz.prog 409 #[.pointer (some ⟨bx,0,none⟩)] w fun e w'=>∃A' c' OP c'',e= .returned (.agg #[.int .i64 1,.slice A' a1 c',.string (ag d.2.1),.slice OP (opsL d.2.2.2.2).length c'',.bool d.2.2.2.1])∧Rd w' (fun i=>w.heap.size≤i) A' (V.take a1)∧Rd w' (fun i=>w.heap.size≤i) OP (dD (eO (kQ d) (l8 d) (opsL d.2.2.2.2) dv nv))∧w.grownBy w' (some bx):=by
 have HR:Hid (∀W,Below w0.heap.size w0 W→Rd W (fun i=>i < w0.heap.size) A V):=fun W hb=>(hr.mono (q:=fun i=>i < w0.heap.size) fun i hi _=>hi).below hb fun i _ hi=>hi
 have CP:Hid (∀W (l:List Nat) (AP:Option Addr) (cP:Nat),Below w0.heap.size w0 W→l∈rH→W.ownsRow w0.heap.size 5 1 (.slice AP l.length cP) l.length (Ui l)→(l=[]→AP=none∧cP=0)→Calls Tryz.prog 431 #[.slice AP l.length cP] W fun e w'=>e= .returned (.tuple #[.int .i64 (Jv l:Nat),.bool true])∧Below W.heap.size W w'):=fun W l AP cP hb hl ho hn=>DD hG hb hl ho hn
 have CT:Hid (∀(a:Nat) (pv e0 e1 e2 e3 e4 e5:Value) (d n z:Int) W,Below w0.heap.size w0 W→Bk W bx 510 (dW A N c a pv e0 e1 e2 e3 e4 e5 d n)→V[a]? =some (.int .u8 z)→Calls Tryz.prog 433 #[.pointer (some ⟨bx,0,none⟩)] W fun e w'=>e= .returned (.int .u8 z)∧Bk w' bx 510 (dW A N c (a+1) pv e0 e1 e2 e3 e4 e5 d n)∧W.grownBy w' (some bx)):=fun a pv e0 e1 e2 e3 e4 e5 d n z W hb hk hz=>qi bx A N c a pv e0 e1 e2 e3 e4 e5 d n V z W _ hk (HR.out W hb) (fun i hi=>zy) hz hN hm
 have CE:Hid (∀(l:List Nat) (a a2:Nat) (pv e0 e1 e2 e3 e4 e5:Value) (d n d2 n2:Int) W,(∀x∈l,x < 128)→Below w0.heap.size w0 W→Bk W bx 510 (dW A N c a pv e0 e1 e2 e3 e4 e5 d n)→Ext V l a d n a2 d2 n2→Calls Tryz.prog 432 #[.pointer (some ⟨bx,0,none⟩),.string (ag l)] W fun e w'=>e= .returned (.tuple #[])∧Bk w' bx 510 (dW A N c a2 pv e0 e1 e2 e3 e4 e5 d2 n2)∧W.grownBy w' (some bx)):=fun l a a2 pv e0 e1 e2 e3 e4 e5 d n d2 n2 W hl hb hk hE=>Ig l hl bx A N c a pv e0 e1 e2 e3 e4 e5 d n V a2 d2 n2 W _ hk (HR.out W hb) (fun i hi=>zy) hN hm hE
 have CR:Hid (∀(k a:Nat) (pv e0 e1 e2 e3 e4 e5:Value) (d n:Int) W,Below w0.heap.size w0 W→Bk W bx 510 (dW A N c a pv e0 e1 e2 e3 e4 e5 d n)→1≤k→k≤N→Calls Tryz.prog 408 #[.pointer (some ⟨bx,0,none⟩),.int .i64 (k:Int)] W fun e w'=>∃A' c',e= .returned (.slice A' k c')∧w'.ownsRow W.heap.size 5 1 (.slice A' k c') k (V.take k)∧Below W.heap.size W w'):=fun k a pv e0 e1 e2 e3 e4 e5 d n W hb hk h2 h3=>Jp bx A N c k a pv e0 e1 e2 e3 e4 e5 d n V W _ hk (HR.out W hb) h1 hN hm h2 h3 hc
 have CA2:Hid (∀(p o:Nat) (d:bL) W,jd p o=some d→Below w0.heap.size w0 W→Calls Tryz.prog 248 #[.int .i64 (p:Int),.int .u8 (o:Int)] W fun e w'=>∃(p' o':Int) (nm ex:ByteArray) (al:Bool) (A:Option Addr) (n c:Nat),e= .returned (.tuple #[.agg #[.int .i64 p',.int .u8 o',.string nm,.slice A n c,.string ex,.bool al],.int .i64 (d.1:Int)])∧Below W.heap.size W w'):=fun p o d W hd hb=>Ff hd W (hG.after hb)
 have CA1:Hid (∀W,Below w0.heap.size w0 W→Calls Tryz.prog 248 #[.int .i64 (p:Int),.int .u8 (o:Int)] W fun e w'=>∃A c,e= .returned (.tuple #[.agg #[.int .i64 (p:Int),.int .u8 (o:Int),.string (ag d.2.1),.slice A (d.2.2.2.2.length / 3) c,.string (ag d.2.2.1),.bool d.2.2.2.1],.int .i64 1])∧gF W.heap.size w' A c (lN d)∧Below W.heap.size W w'):=fun W hb=>Q5 hd hk W (hG.after hb)
 have CF:Hid (∀(x:gy) W,Below w0.heap.size w0 W→dF w0.heap.size W x→x.2.1=d→Calls Tryz.prog 434 #[kU x,.int .i64 dv,.int .i64 nv] W fun e w'=>∃A' c',e= .returned (.tuple #[.agg #[.string (ag d.2.1),.slice A' (opsL d.2.2.2.2).length c'],.bool true])∧Rd w' (fun i=>W.heap.size≤i) A' (dD (eO (kQ d) (l8 d) (opsL d.2.2.2.2) dv nv))∧Below W.heap.size W w'):=fun x W hb hx hxd=>by
  subst hxd;exact aeU hG hb hx dv nv hdv hnv
 have HEX:Hid (∀x∈d.2.2.1,x < 128):=by
  have:=(eF hd).2.2.1;intro x hx;exact aau this x hx
 have H0:Hid (Fv w (w.alloc (.cells #[.int .i64 0,.slice none 0 0,.string ⟨#[]⟩,.slice none 0 0,.bool false] 30)) bx w.heap.size A N c 0 [] none 0 (.int .i64 0) (.int .u8 0) (.string ⟨#[]⟩) (.slice none 0 0) (.string ⟨#[]⟩) (.bool false) 0 0):=⟨hb.alloc _,yx _ _ _ _,fun _=>⟨rfl,rfl⟩,Bk.new w _ _,wG w _ _,zn _⟩
 have IQ:=zo (show w.heap.size≠bx from fun e=>by have:=hb.lt;omega)
 have HK:=zo hk;have HH:=zo (zM hH (zM hp (zM ho hd)));have HB0:=zo (zM hb0 hbx);have HA1:=zo (zM ha1 haN);clear hb hbx hb0 hr h1 hN hc hH hdv hnv ha1 haN hG hd hk;go_enter Tryz.func409,Tryz.ntmps409;go_wp2;obtain⟨rb,hrb⟩:∃b,w.heap.size=b:=⟨_,rfl⟩;rw[hrb] at H0 IQ ⊢;generalize w.alloc (.cells #[.int .i64 0,.slice none 0 0,.string ⟨#[]⟩,.slice none 0 0,.bool false] 30)=W0 at H0 ⊢
 go_loopw [3] (fun _ wr=>∃(r:Nat) (AP:Option Addr) (cP:Nat),r≤(aO p).length∧Hid (Fv w wr bx rb A N c r ((aO p).take r) AP cP (.int .i64 0) (.int .u8 0) (.string ⟨#[]⟩) (.slice none 0 0) (.string ⟨#[]⟩) (.bool false) 0 0)) (fun _ wr=>10 - (match wr.cell? ⟨bx,1,none⟩ with|some v=>(intOf v).toNat|none=>0))
 case atStart=>exact⟨0,none,0,zF _,H0.out⟩
 case round=>
  obtain⟨r,AP,cP,hr,hw⟩:=hrel;clear H0;have uw:=hw.below HB0.1 HB0.2;have hrw:wr.cell? ⟨bx,1,none⟩=some (.int .i64 (r:Int)):=hw.bk.cell 1 rfl;by_cases hlt:r < (aO p).length
  ·obtain⟨z,hz⟩:∃z,(aO p)[r]? =some z:=⟨_,zg hlt⟩;obtain⟨hmem,hp5,amG,dd,hdd,hd2⟩:=Xf HH.2.1 hz;have hVz:=HH.1.pre r z hz
   have htk:(aO p).take (r+1)=(aO p).take r++[z]:=by
    rw[xh,hz];rfl
   obtain⟨pf,hpf⟩:∃pf,(aO p).take r=pf:=⟨_,rfl⟩
   have hpl:pf.length=r:=by
    rw[← hpf,zJ];omega
   rw[hpf] at hw hmem hp5 hdd htk;obtain⟨pg,qP⟩:∃pg,Jv pf=pg:=⟨_,rfl⟩;rw[qP] at hp5 hdd;have Fw:=CP.out wr pf AP cP uw hmem (own_base' hw.own (by have:=HB0.1.size;omega)) hw.nil
   rw[qP] at Fw;have Fw:=zo Fw;have Lt:=zo (fun W hb hk=>CT.out r (.slice AP pf.length cP) (.int .i64 0) (.int .u8 0) (.string ⟨#[]⟩) (.slice none 0 0) (.string ⟨#[]⟩) (.bool false) 0 0 (z:Int) W hb hk hVz)
   have Fx:=zo (fun W hb=>CA2.out pg z dd W hdd hb)
   have h5:¬((5:Int)≤(pg:Int)):=zy;have h5d:decide ((5:Int)≤(pg:Int))=false:=zN h5;have HTK:=zo (zM htk hpl);have QA:=zo hlt;have HD2:=zo hd2;have y2:=hw.bk.cell 2 rfl;clear hz hmem hdd hVz htk hpf qP CA1 CF CE CR uw hd2;obtain⟨np,FH⟩:∃np,pf.length=np:=⟨_,rfl⟩;rw[FH] at y2;have Lf:Hid (Calls Tryz.prog 431 #[.slice AP np cP] wr fun e w'=>e= .returned (.tuple #[.int .i64 (pg:Int),.bool true])∧Below wr.heap.size wr w'):=FH ▸ Fw.out
   clear Fw;obtain⟨kd,hkd⟩:∃kd:Int,(dd.1:Int)=kd:=⟨_,rfl⟩;rw[hkd] at Fx;have hk2:kd=2:=by rw[← hkd,HD2.out];rfl
   subst hk2
   go_upto_region 9 with (first
    |(go_at_call 431;refine Lf.mono ?_;rintro e w2 ⟨rfl,hb⟩;have H2:=zo (hw.after hb);clear hb)
    |(go_at_call 433;refine (Lt.out _ (H2.below HB0.1 HB0.2) H2.bk).mono ?_;rintro e w3 ⟨rfl,hb3,hg3⟩;have H3:=zo (H2.write IQ.out hb3 hg3);clear hb3 hg3)
    |(go_at_call 248;refine (Fx.out _ (H3.below HB0.1 HB0.2)).mono ?_;rintro e w4 ⟨p',o',FR,Kh,al',A9,n9,c9,rfl,hb⟩;have H4:=zo ((H3.after hb).after ((zh w4.heap.size w4).alloc (zn _) (.cells #[.int .i64 p',.int .u8 o',.string FR,.slice A9 n9 c9,.string Kh,.bool al'] 133)));clear hb))
   obtain⟨b7,SV⟩:∃b,w4.heap.size=b:=⟨_,rfl⟩;rw[SV];generalize (w4.alloc (.cells #[.int .i64 p',.int .u8 o',.string FR,.slice A9 n9 c9,.string Kh,.bool al'] 133))=W4 at H4 ⊢;clear SV y2 Lf Lt Fx hw;have H5:=zo (H4.after ((zh W4.heap.size W4).alloc (zn _) (.cells #[.int .u8 (z:Int)] 5)))
   have x2:W4.cell? ⟨bx,2,none⟩=some (.slice AP np cP):=by
    have:=H4.bk.cell 2 rfl;rw[FH] at this;exact this
   have hrd:=Rd.new W4 #[.int .u8 (z:Int)] 5 (p:=fun _=>True) trivial
   have hown1:=H5.own;rw[FH] at hown1
   have aqB:np≤10:=by
    have h1:=HTK.2;have h2:=QA.out;have h3:(aO p).length≤2:=mo p;omega
   have HS5:=zo H5.gr.size
   have aks:Hid (∀(W':World) (g' c':Nat),W'.ownsRow w.heap.size 5 1 (.slice (some ⟨g',0,none⟩) (np+1) c') (np+1) (Ui pf++[.int .u8 (z:Int)])→(W4.alloc (.cells #[.int .u8 (z:Int)] 5)).grownBy W' (Value.slice AP np cP).ownBlock→Bk W' bx 510 (dW A N c (r+1) (.slice AP np cP) (.int .i64 0) (.int .u8 0) (.string ⟨#[]⟩) (.slice none 0 0) (.string ⟨#[]⟩) (.bool false) 0 0)∧Fv w (W'.setCell ⟨bx,2,none⟩ (.slice (some ⟨g',0,none⟩) (np+1) c')) bx rb A N c (r+1) (pf++[z]) (some ⟨g',0,none⟩) c' (.int .i64 0) (.int .u8 0) (.string ⟨#[]⟩) (.slice none 0 0) (.string ⟨#[]⟩) (.bool false) 0 0):=by
    have h5:=H5.out;subst FH;exact zo fun W' g' c' ho hg=>h5.app IQ.out ho hg
   clear FH
   go_wp2_with (at_builtin;(refine bu iU rfl (.tmp 41) (.tmp 43) rfl w.heap.size _ np (Ui pf) (fun _=>True) (some ⟨W4.heap.size,0,none⟩) 1 1 _ rfl rfl hown1 rfl hrd (by simp[Value.oneCell']) (by simp only[maxLen];omega) zy HS5.out ?_;intro v' w5 hown2 hg1 QB hz1;obtain⟨g',c',rfl⟩:=MH hown2;have H6:=zo (aks.out _ _ _ hown2 hg1);have u2:=H6.1.cell 2 rfl;have f2:=H6.1.frozen 2;clear hown2 hg1 QB hz1))
   have H7:=zo H6.2;rw[← HTK.1] at H7;have hrn:(w5.setCell ⟨bx,2,none⟩ (.slice (some ⟨g',0,none⟩) (np+1) c')).cell? ⟨bx,1,none⟩=some (.int .i64 ((r+1:Nat):Int)):=H7.bk.cell 1 rfl
   have hr2:r+1≤2:=by
    have h2:=QA.out;have h3:(aO p).length≤2:=mo p;omega
   go_roundw
   case rel=>exact⟨r+1,_,_,QA.out,H7.out⟩
   case measure=>rw[hrn,hrw];show 10 - ((r+1:Nat):Int).toNat < 10 - ((r:Nat):Int).toNat;omega
  ·have hre:r=(aO p).length:=zy;subst hre;rw[yH] at hw;obtain⟨hmem,qP⟩:=Rs HH.2.1;have Fw:=CP.out wr (aO p) AP cP uw hmem (own_base' hw.own (by have:=HB0.1.size;omega)) hw.nil
   rw[qP] at Fw;have Fw:=zo Fw;obtain⟨np,FH⟩:∃np,(aO p).length=np:=⟨_,rfl⟩;have y2:=hw.bk.cell 2 rfl;rw[FH] at y2;have Lf:Hid (Calls Tryz.prog 431 #[.slice AP np cP] wr fun e w'=>e= .returned (.tuple #[.int .i64 (p:Int),.bool true])∧Below wr.heap.size wr w'):=FH ▸ Fw
   clear Fw qP hmem hr;by_cases h5:5≤p
   case' pos=>
    have h5d:decide ((5:Int)≤(p:Int))=true:=zC zy;obtain⟨hE,hV,hn0,ha⟩:=HH.1.early h5;have CEx:=zo (fun W hb hk=>CE.out [100] (aO p).length ((aO p).length+1) (.slice AP (aO p).length cP) (.int .i64 0) (.int .u8 0) (.string ⟨#[]⟩) (.slice none 0 0) (.string ⟨#[]⟩) (.bool false) 0 0 dv 0 W (by intro x hx;simp at hx;omega) hb hk hE)
    have Lt:=zo (fun W hb hk=>CT.out ((aO p).length+1) (.slice AP (aO p).length cP) (.int .i64 0) (.int .u8 0) (.string ⟨#[]⟩) (.slice none 0 0) (.string ⟨#[]⟩) (.bool false) dv 0 (o:Int) W hb hk hV)
    have Fx:=zo (fun W hb=>CA1.out W hb)
    have agu:(⟨#[100]⟩:ByteArray)=ag [100]:=rfl;clear hE hV uw CP CT CE CA2 FH
    go_upto_region 14 with (first
     |(go_at_call 431;refine Lf.mono ?_;rintro e w2 ⟨rfl,hb⟩;have H2:=zo (hw.after hb);clear hb)
     |(go_at_call 432;(refine (CEx.out _ (H2.below HB0.1 HB0.2) H2.bk).mono ?_;rintro e w3 ⟨rfl,hb3,hg3⟩;have H3:=zo (H2.write IQ.out hb3 hg3);clear hb3 hg3))
     |(go_at_call 433;refine (Lt.out _ (H3.below HB0.1 HB0.2) H3.bk).mono ?_;rintro e w4 ⟨rfl,hb3,hg3⟩;have H4:=zo (H3.write IQ.out hb3 hg3);clear hb3 hg3)
     |(go_at_call 248;refine (Fx.out _ (H4.below HB0.1 HB0.2)).mono ?_;rintro e w5 ⟨A9,c9,rfl,hrow,hb⟩;have H5:=zo (H4.iZ (x:=((p,o),d,A9,c9)) (B:=w0.heap.size) hb ⟨HH.2.2.2,HK.out,HH.2.2.1,hrow⟩ (H4.below HB0.1 HB0.2).size);clear hb hrow))
    obtain⟨b7,SV⟩:∃b,w5.heap.size=b:=⟨_,rfl⟩;rw[SV] at H5 ⊢;have H5:Hid (KY w0.heap.size w (w5.alloc (.cells #[.int .i64 (p:Int),.int .u8 (o:Int),.string (ag d.2.1),.slice A9 (d.2.2.2.2.length / 3) c9,.string (ag d.2.2.1),.bool d.2.2.2.1] 133)) bx rb b7 A N c ((aO p).length+1+1) (.slice AP (aO p).length cP) (.int .i64 0) (.int .u8 0) (.string ⟨#[]⟩) (.slice none 0 0) (.string ⟨#[]⟩) (.bool false) dv 0 ((p,o),d,A9,c9)):=H5;generalize w5.alloc (.cells #[.int .i64 (p:Int),.int .u8 (o:Int),.string (ag d.2.1),.slice A9 (d.2.2.2.2.length / 3) c9,.string (ag d.2.2.1),.bool d.2.2.2.1] 133)=W5 at H5 ⊢;clear SV;have z0:W5.cell? ⟨b7,0,none⟩=some (.int .i64 (p:Int)):=H5.iZ.cell 0 rfl;have z1:W5.cell? ⟨b7,1,none⟩=some (.int .u8 (o:Int)):=H5.iZ.cell 1 rfl;have z2:W5.cell? ⟨b7,2,none⟩=some (.string (ag d.2.1)):=H5.iZ.cell 2 rfl;have z3:W5.cell? ⟨b7,3,none⟩=some (.slice A9 (d.2.2.2.2.length / 3) c9):=H5.iZ.cell 3 rfl;have z4:W5.cell? ⟨b7,4,none⟩=some (.string (ag d.2.2.1)):=H5.iZ.cell 4 rfl;have z5:W5.cell? ⟨b7,5,none⟩=some (.bool d.2.2.2.1):=H5.iZ.cell 5 rfl;go_upto_region 17 with (refine aN rfl 133 (.tmp 69) (.tmp 67) rfl bx 3 (di ((p,o),d,A9,c9)) rfl rfl 510 _ H5.bk rfl (by simp[dW,di]) (by simp[di,Value.oneCell']) ?_;intro w6 hb6 hg6;have H6:=zo (H5.write IQ.out (a':=(aO p).length+1+1) (e0':=.int .i64 (p:Int)) (e1':=.int .u8 (o:Int)) (e2':=.string (ag d.2.1)) (e3':=.slice A9 (d.2.2.2.2.length / 3) c9) (e4':=.string (ag d.2.2.1)) (e5':=.bool d.2.2.2.1) (d':=dv) (n':=0) hb6 hg6);clear hb6 hg6)
    have K6:Hid (KY w0.heap.size w w6 bx rb b7 A N c a1 (.slice AP (aO p).length cP) (.int .i64 (p:Int)) (.int .u8 (o:Int)) (.string (ag d.2.1)) (.slice A9 (d.2.2.2.2.length / 3) c9) (.string (ag d.2.2.1)) (.bool d.2.2.2.1) dv nv ((p,o),d,A9,c9)):=by
     rw[hn0,ha];exact H6
    clear z0 z1 z2 z3 z4 z5 H4 H5 H6 hn0 ha HK Lf Lt Fx CEx agu h5d h5
   case' neg=>
    have h5d:decide ((5:Int)≤(p:Int))=false:=zN zy;obtain⟨hV,hE⟩:=HH.1.late zy;have Lt:=zo (fun W hb hk=>CT.out (aO p).length (.slice AP (aO p).length cP) (.int .i64 0) (.int .u8 0) (.string ⟨#[]⟩) (.slice none 0 0) (.string ⟨#[]⟩) (.bool false) 0 0 (o:Int) W hb hk hV)
    have Fx:=zo (fun W hb=>CA1.out W hb)
    have CEx:=zo (fun e0 e1 e2 e3 e4 e5 W hb hk=>CE.out d.2.2.1 ((aO p).length+1) a1 (.slice AP (aO p).length cP) e0 e1 e2 e3 e4 e5 0 0 dv nv W HEX.out hb hk hE)
    clear hE hV uw CP CT CE CA2 FH
    go_upto_region 14 with (first
     |(go_at_call 431;refine Lf.mono ?_;rintro e w2 ⟨rfl,hb⟩;have H3:=zo (hw.after hb);clear hb)
     |(go_at_call 433;refine (Lt.out _ (H3.below HB0.1 HB0.2) H3.bk).mono ?_;rintro e w4 ⟨rfl,hb3,hg3⟩;have H4:=zo (H3.write IQ.out hb3 hg3);clear hb3 hg3)
     |(go_at_call 248;refine (Fx.out _ (H4.below HB0.1 HB0.2)).mono ?_;rintro e w5 ⟨A9,c9,rfl,hrow,hb⟩;have H5:=zo (H4.iZ (x:=((p,o),d,A9,c9)) (B:=w0.heap.size) hb ⟨HH.2.2.2,HK.out,HH.2.2.1,hrow⟩ (H4.below HB0.1 HB0.2).size);clear hb hrow))
    obtain⟨b7,SV⟩:∃b,w5.heap.size=b:=⟨_,rfl⟩;rw[SV] at H5 ⊢;have H5:Hid (KY w0.heap.size w (w5.alloc (.cells #[.int .i64 (p:Int),.int .u8 (o:Int),.string (ag d.2.1),.slice A9 (d.2.2.2.2.length / 3) c9,.string (ag d.2.2.1),.bool d.2.2.2.1] 133)) bx rb b7 A N c ((aO p).length+1) (.slice AP (aO p).length cP) (.int .i64 0) (.int .u8 0) (.string ⟨#[]⟩) (.slice none 0 0) (.string ⟨#[]⟩) (.bool false) 0 0 ((p,o),d,A9,c9)):=H5;generalize w5.alloc (.cells #[.int .i64 (p:Int),.int .u8 (o:Int),.string (ag d.2.1),.slice A9 (d.2.2.2.2.length / 3) c9,.string (ag d.2.2.1),.bool d.2.2.2.1] 133)=W5 at H5 ⊢;clear SV;have z0:W5.cell? ⟨b7,0,none⟩=some (.int .i64 (p:Int)):=H5.iZ.cell 0 rfl;have z1:W5.cell? ⟨b7,1,none⟩=some (.int .u8 (o:Int)):=H5.iZ.cell 1 rfl;have z2:W5.cell? ⟨b7,2,none⟩=some (.string (ag d.2.1)):=H5.iZ.cell 2 rfl;have z3:W5.cell? ⟨b7,3,none⟩=some (.slice A9 (d.2.2.2.2.length / 3) c9):=H5.iZ.cell 3 rfl;have z4:W5.cell? ⟨b7,4,none⟩=some (.string (ag d.2.2.1)):=H5.iZ.cell 4 rfl;have z5:W5.cell? ⟨b7,5,none⟩=some (.bool d.2.2.2.1):=H5.iZ.cell 5 rfl
    go_upto_region 17 with (first
     |(refine aN rfl 133 (.tmp 69) (.tmp 67) rfl bx 3 (di ((p,o),d,A9,c9)) rfl rfl 510 _ H5.bk rfl (by simp[dW,di]) (by simp[di,Value.oneCell']) ?_;intro w7 hb6 hg6;have H6:=zo (H5.write IQ.out (a':=(aO p).length+1) (e0':=.int .i64 (p:Int)) (e1':=.int .u8 (o:Int)) (e2':=.string (ag d.2.1)) (e3':=.slice A9 (d.2.2.2.2.length / 3) c9) (e4':=.string (ag d.2.2.1)) (e5':=.bool d.2.2.2.1) (d':=0) (n':=0) hb6 hg6);have z6:w7.cell? ⟨b7,4,none⟩=some (.string (ag d.2.2.1)):=H6.iZ.cell 4 rfl;clear hb6 hg6)
     |(go_at_call 432;(refine (CEx.out _ _ _ _ _ _ _ (H6.below HB0.1 HB0.2) H6.bk).mono ?_;rintro e w6 ⟨rfl,hb3,hg3⟩;have K6:=zo (H6.write IQ.out hb3 hg3);clear hb3 hg3 z6)))
    have K6:Hid (KY w0.heap.size w w6 bx rb b7 A N c a1 (.slice AP (aO p).length cP) (.int .i64 (p:Int)) (.int .u8 (o:Int)) (.string (ag d.2.1)) (.slice A9 (d.2.2.2.2.length / 3) c9) (.string (ag d.2.2.1)) (.bool d.2.2.2.1) dv nv ((p,o),d,A9,c9)):=K6;clear z0 z1 z2 z3 z4 z5 H3 H4 H5 H6 HK Lf Lt Fx CEx h5d h5
   all_goals
    have hal:=(zh w6.heap.size w6).alloc (zn _) (.cells #[.string ⟨#[]⟩,.slice none 0 0] 28);have H7:Hid (KY w0.heap.size w ((w6.alloc (.cells #[.string ⟨#[]⟩,.slice none 0 0] 28)).drew) bx rb b7 A N c a1 (.slice AP (aO p).length cP) (.int .i64 (p:Int)) (.int .u8 (o:Int)) (.string (ag d.2.1)) (.slice A9 (d.2.2.2.2.length / 3) c9) (.string (ag d.2.2.1)) (.bool d.2.2.2.1) dv nv ((p,o),d,A9,c9)∧Bk ((w6.alloc (.cells #[.string ⟨#[]⟩,.slice none 0 0] 28)).drew) w6.heap.size 28 [.string ⟨#[]⟩,.slice none 0 0]):=zo ⟨K6.after (aL hal),(Bk.new w6 28 [.string ⟨#[]⟩,.slice none 0 0]).drew⟩;have E0:=K6.iZ.cell 0 rfl;have E1:=K6.iZ.cell 1 rfl;have E2:=K6.iZ.cell 2 rfl;have E3:=K6.iZ.cell 3 rfl;have E4:=K6.iZ.cell 4 rfl;have E5:=K6.iZ.cell 5 rfl;have E9:w6.cell? ⟨bx,9,none⟩=some (.int .i64 dv):=K6.bk.cell 9 rfl;have E10:w6.cell? ⟨bx,10,none⟩=some (.int .i64 nv):=K6.bk.cell 10 rfl;have K7:=zo (K6.after (aL (zh w6.heap.size w6)));have BA:=zo (aL hal);have BB:=zo (aL (zh w6.heap.size w6));have CFx:=zo (CF.out ((p,o),d,A9,c9) _ (H7.1.below HB0.1 HB0.2) H7.1.ok rfl);have CFy:=zo (CF.out ((p,o),d,A9,c9) _ (K7.below HB0.1 HB0.2) K7.ok rfl);have n0:=World.new_ne w6 _ E0;have n1:=World.new_ne w6 _ E1;have n2:=World.new_ne w6 _ E2;have n3:=World.new_ne w6 _ E3;have n4:=World.new_ne w6 _ E4;have n5:=World.new_ne w6 _ E5;have n9:=World.new_ne w6 _ E9;have n10:=World.new_ne w6 _ E10;have hn1:b7≠w6.heap.size:=Nat.ne_of_lt K6.iZ.lt;have hn2:bx≠w6.heap.size:=Nat.ne_of_lt K6.bk.lt;have IP:=zo (show w6.heap.size < w6.heap.size+1 from zS _)
    clear CF hal;dsimp only[di,List.toArray] at E0 E1 E2 E3 E4 E5
    go_region_held3 (fun w'=>w'.cell? ⟨b7,0,none⟩=some (.int .i64 (p:Int))∧w'.cell? ⟨b7,1,none⟩=some (.int .u8 (o:Int))∧w'.cell? ⟨b7,2,none⟩=some (.string (ag d.2.1))∧w'.cell? ⟨b7,3,none⟩=some (.slice A9 (d.2.2.2.2.length / 3) c9)∧w'.cell? ⟨b7,4,none⟩=some (.string (ag d.2.2.1))∧w'.cell? ⟨b7,5,none⟩=some (.bool d.2.2.2.1)∧w'.cell? ⟨bx,9,none⟩=some (.int .i64 dv)∧w'.cell? ⟨bx,10,none⟩=some (.int .i64 nv)) (first|assumption|go_keep) (first
     |(go_at_call 434;refine CFx.mono ?_;rintro e w8 ⟨A8,c8,rfl,hr8,hb8⟩;have HB8:=zo (BA.trans (hb8.mono BA.size));have H8:=zo (H7.1.after hb8);have HI8:=zo (H7.2.after hb8);have i0:=HI8.cell 0 rfl;have i1:=HI8.cell 1 rfl;have if0:=HI8.frozen 0;have if1:=HI8.frozen 1;have HR8:=zo hr8;have F0:=H8.iZ.cell 0 rfl;have F1:=H8.iZ.cell 1 rfl;have F2:=H8.iZ.cell 2 rfl;have F3:=H8.iZ.cell 3 rfl;have F4:=H8.iZ.cell 4 rfl;have F5:=H8.iZ.cell 5 rfl;have F9:=H8.bk.cell 9 rfl;have F10:=H8.bk.cell 10 rfl;clear hb8 hr8)
     |(go_at_call 434;refine CFy.mono ?_;rintro e w8 ⟨A8,c8,rfl,hr8,hb8⟩;have HB8:=zo (BB.trans (hb8.mono BB.size));have H8:=zo (K7.after hb8);have HR8:=zo hr8;have F0:=H8.iZ.cell 0 rfl;have F1:=H8.iZ.cell 1 rfl;have F2:=H8.iZ.cell 2 rfl;have F3:=H8.iZ.cell 3 rfl;have F4:=H8.iZ.cell 4 rfl;have F5:=H8.iZ.cell 5 rfl;have F9:=H8.bk.cell 9 rfl;have F10:=H8.bk.cell 10 rfl;clear hb8 hr8))
    all_goals
     have H9:Hid (∃(W9:World),True):=zo ⟨w6,trivial⟩;clear F0 F1 F2 F3 F4 F5 F9 F10 n0 n1 n2 n3 n4 n5 n9 n10 E0 E1 E2 E3 E4 E5 E9 E10 CFx CFy H9;go_wp2
     first
      |(
        have G1:Hid (Below w6.heap.size w6 ((w8.setCell ⟨w6.heap.size,0,none⟩ (.string (ag d.2.1))).setCell ⟨w6.heap.size,1,none⟩ (.slice A8 (opsL d.2.2.2.2).length c8))):=zo ((HB8.setCell (zn _) _).setCell (zn _) _);have G2:Hid (Bk ((w8.setCell ⟨w6.heap.size,0,none⟩ (.string (ag d.2.1))).setCell ⟨w6.heap.size,1,none⟩ (.slice A8 (opsL d.2.2.2.2).length c8)) w6.heap.size 28 [.string (ag d.2.1),.slice A8 (opsL d.2.2.2.2).length c8]):=zo ((HI8.set 0 (.string (ag d.2.1))).set 1 (.slice A8 (opsL d.2.2.2.2).length c8));have G3:Hid (Rd ((w8.setCell ⟨w6.heap.size,0,none⟩ (.string (ag d.2.1))).setCell ⟨w6.heap.size,1,none⟩ (.slice A8 (opsL d.2.2.2.2).length c8)) (fun i=>w6.heap.size≤i) A8 (dD (eO (kQ d) (l8 d) (opsL d.2.2.2.2) dv nv))):=zo ((HR8.keep fun i _ hi=>(zG _ _ _ _ (by have h2:=Kv hi;show i≠w6.heap.size;omega)).trans (zG _ _ _ _ (by have h2:=Kv hi;show i≠w6.heap.size;omega))).mono fun i _ h=>Nat.le_of_succ_le (Kv h))
        obtain⟨W9,hW9⟩:∃W9,((w8.setCell ⟨w6.heap.size,0,none⟩ (.string (ag d.2.1))).setCell ⟨w6.heap.size,1,none⟩ (.slice A8 (opsL d.2.2.2.2).length c8))=W9:=⟨_,rfl⟩;rw[hW9] at G1 G2 G3 ⊢;clear hW9;have H9:=zo (K6.after G1.out);clear i0 i1 if0 if1 HI8;obtain⟨b9,hb9⟩:∃b,w6.heap.size=b:=⟨_,rfl⟩;have HB9:Hid (w6.heap.size≤b9):=zo (xL hb9);rw[hb9] at G2 ⊢;clear hb9)
      |(have G1:Hid (Below w6.heap.size w6 (w8.alloc (.cells #[.string (ag d.2.1),.slice A8 (opsL d.2.2.2.2).length c8] 28))):=zo (HB8.alloc HB8.size _)
        have G2:Hid (Bk (w8.alloc (.cells #[.string (ag d.2.1),.slice A8 (opsL d.2.2.2.2).length c8] 28)) w8.heap.size 28 [.string (ag d.2.1),.slice A8 (opsL d.2.2.2.2).length c8]):=zo (Bk.new w8 28 [.string (ag d.2.1),.slice A8 (opsL d.2.2.2.2).length c8]);have G3:Hid (Rd (w8.alloc (.cells #[.string (ag d.2.1),.slice A8 (opsL d.2.2.2.2).length c8] 28)) (fun i=>w6.heap.size≤i) A8 (dD (eO (kQ d) (l8 d) (opsL d.2.2.2.2) dv nv))):=zo (HR8.after ((zh _ _).alloc (zn _) _))
        generalize (w8.alloc (.cells #[.string (ag d.2.1),.slice A8 (opsL d.2.2.2.2).length c8] 28))=W9 at G1 G2 G3 ⊢;have H9:=zo (K6.after G1.out);have HB9:Hid (w6.heap.size≤w8.heap.size):=zo HB8.size;generalize w8.heap.size=b9 at G2 HB9 ⊢)
     clear hn1 hn2 IP H7 K7 BA BB H8 HR8 HB8;have e1:W9.cell? ⟨bx,1,none⟩=some (.int .i64 (a1:Int)):=H9.bk.cell 1 rfl;have e2:W9.cell? ⟨b9,0,none⟩=some (.string (ag d.2.1)):=G2.cell 0 rfl;have e3:W9.cell? ⟨b9,1,none⟩=some (.slice A8 (opsL d.2.2.2.2).length c8):=G2.cell 1 rfl;have e4:W9.cell? ⟨b7,5,none⟩=some (.bool d.2.2.2.1):=H9.iZ.cell 5 rfl;have HD9:=zo (H9.after (aL (zh W9.heap.size W9)));have CRx:=zo (CR.out a1 a1 _ _ _ _ _ _ _ _ _ W9.drew (HD9.below HB0.1 HB0.2) HD9.bk HA1.1 HA1.2);have D9:=zo (G2.drew);clear CR;have hq1:bx≠rb:=xq IQ.out;have hq2:b9≠rb:=Nat.ne_of_gt (zZ K6.res.lt HB9.out);have hq3:b7≠rb:=K6.aiq;refine wp_region_held_drew (S:=(fun w'=>w'.cell? ⟨bx,1,none⟩=some (.int .i64 (a1:Int))∧w'.cell? ⟨b9,0,none⟩=some (.string (ag d.2.1))∧w'.cell? ⟨b9,1,none⟩=some (.slice A8 (opsL d.2.2.2.2).length c8)∧w'.cell? ⟨b7,5,none⟩=some (.bool d.2.2.2.1))) zz ⟨HD9.bk.cell 1 rfl,D9.cell 0 rfl,D9.cell 1 rfl,HD9.iZ.cell 5 rfl⟩ (fun hHeld=>?_)
     refine oL 0 (oi:=_) (v:=?_) ?_ ?_;rotate_left;focus ((intro w hSw;(try dsimp only at hSw);go_simp)<;>with_reducible rfl)
     refine oL 1 (oi:=_) (v:=?_) ?_ ?_;rotate_left;focus ((intro w hSw;(try dsimp only at hSw);go_simp)<;>with_reducible rfl)
     refine oL 2 (oi:=_) (v:=?_) ?_ ?_;rotate_left;focus ((intro w hSw;(try dsimp only at hSw);go_simp)<;>with_reducible rfl)
     refine oL 3 (oi:=_) (v:=?_) ?_ ?_;rotate_left;focus ((intro w hSw;(try dsimp only at hSw);go_simp)<;>with_reducible rfl)
     refine oL 4 (oi:=_) (v:=?_) ?_ ?_;rotate_left;focus ((intro w hSw;(try dsimp only at hSw);go_simp)<;>with_reducible rfl)
     refine oL 5 (oi:=_) (v:=?_) ?_ ?_;rotate_left;focus ((intro w hSw;(try dsimp only at hSw);go_simp)<;>with_reducible rfl)
     refine oL 6 (oi:=_) (v:=?_) ?_ ?_;rotate_left;focus ((intro w hSw;(try dsimp only at hSw);go_simp)<;>with_reducible rfl)
     refine oL 7 (oi:=_) (v:=?_) ?_ ?_;rotate_left;focus ((intro w hSw;(try dsimp only at hSw);go_simp)<;>with_reducible rfl)
     refine oL 9 (oi:=_) (v:=?_) ?_ ?_;rotate_left;focus ((intro w hSw;(try dsimp only at hSw);go_simp)<;>with_reducible rfl)
     refine oL 10 (oi:=_) (v:=?_) ?_ ?_;rotate_left;focus ((intro w hSw;(try dsimp only at hSw);go_simp)<;>with_reducible rfl)
     refine oL 11 (oi:=_) (v:=?_) ?_ ?_;rotate_left;focus ((intro w hSw;(try dsimp only at hSw);go_simp)<;>with_reducible rfl)
     refine wpAnyH_ready (rs:=[8]) zz zw ?_;refine AllReadyH.cons (o:=_) rfl (fun K hK=>?_) AllReadyH.nil
     go_simp;go_at_call 408;refine CRx.mono ?_;rintro e w10 ⟨A10,c10,rfl,amX,Et⟩;have H10:=zo (HD9.after Et);have arY:=zo amX;have aok:=zo Et;refine hK.out _ _ ⟨H10.bk.cell 1 rfl,(D9.after Et).cell 0 rfl,(D9.after Et).cell 1 rfl,H10.iZ.cell 5 rfl⟩ (fun lU=>?_)
     clear hK K hHeld amX Et
     try simp only[Act.put,List.setIfInBounds_toArray,List.set_cons_zero,List.set_cons_succ]
     refine oL 12 (oi:={ dst:=some 101,op:=.build 30 #[(0,.const (.int .i64 1)),(1,.tmp 97),(2,.tmp 98),(3,.tmp 100)],type:=30,pos:= "decode.go:84",after:=#[{ on:=8,ground:=.data},{ on:=9,ground:=.data},{ on:=11,ground:=.data}],guard:=none}) (v:=?_) ?_ ?_;rotate_left;focus ((intro w hSw;(try dsimp only at hSw);go_simp)<;>with_reducible rfl)
     refine wpAnyH_ready (rs:=[13]) zz zw ?_;refine AllReadyH.cons (o:=_) rfl (fun K hK=>?_) AllReadyH.nil
     refine ic (o:=_) rfl 30 (.tmp 2) (.tmp 101) rfl rb 0 [.int .i64 1,.slice A10 a1 c10,.string (ag d.2.1),.slice A8 (opsL d.2.2.2.2).length c8,.bool d.2.2.2.1] rfl rfl 30 _ H10.res rfl zw (by simp[Value.oneCell']) ?_
     intro w11 VI aqK;have avP:=zo VI;have afH:=zo aqK
     have hcell:∀b j (u:Value),b≠rb→w10.cell? ⟨b,j,none⟩=some u→w11.cell? ⟨b,j,none⟩=some u:=fun b j u hb hc=>by
      rw[← hc];exact yz (afH.block b (lt_of_cell hc) fun e=>hb (zq e))
     refine hK.out _ _ ⟨hcell _ _ _ hq1 (H10.bk.cell 1 rfl),hcell _ _ _ hq2 lU.2.1,hcell _ _ _ hq2 lU.2.2.1,hcell _ _ _ hq3 (H10.iZ.cell 5 rfl)⟩ (fun rW=>?_)
     clear hK K lU rW hcell;refine wpAnyH_done zz ?_ _
     try simp only[Act.put]
     have y0:=VI.cell 0 rfl;have y1:=VI.cell 1 rfl;have y2:=VI.cell 2 rfl;have y3:=VI.cell 3 rfl;have y4:=VI.cell 4 rfl;go_wp2;refine xx (v:=.agg #[.int .i64 1,.slice A10 a1 c10,.string (ag d.2.1),.slice A8 (opsL d.2.2.2.2).length c8,.bool d.2.2.2.1]) (by simp[results,Tryz.results409,go_sem,y0,y1,y2,y3,y4]) rfl ⟨A10,c10,A8,c8,rfl,?_,?_,?_⟩
     ·have hlt:=H9.res.lt;have hsz:=H9.gr.size;refine ((Rd.jf (p:=fun i=>i≠rb∧w.heap.size≤i) arY.out fun i h1 _=>?_).keep fun i h1 h2=>afH.block i h1 fun e=>h2.1 (zq e)).mono fun _ _ h=>h.2
      have:W9.heap.size≤i:=h1;omega
     ·exact (((G3.after (aL (zh W9.heap.size W9))).after aok.out).keep fun i h1 (h2:w6.heap.size≤i)=>afH.block i h1 fun e=>by have h3:=K6.res.lt;have h4:i=rb:=zq e;omega).mono fun i _ (h2:w6.heap.size≤i)=>zV K6.gr.size h2
     ·exact Av H10.gr afH.out (xL hrb)
