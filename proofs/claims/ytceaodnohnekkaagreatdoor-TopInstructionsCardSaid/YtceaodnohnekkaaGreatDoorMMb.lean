/- The walk of item of the decoder, at the bytes of an entry of the table. -/
import Derived.Test.YtceaodnohnekkaaGreatDoorMK4
import Derived.Test.YtceaodnohnekkaaGreatDoorMK17
namespace Go.Proofs.YtceaodnohnekkaaGreatDoor
open Go.RowKit Ex
theorem Zx {W:World}{base:Nat}{e:TypeId}{size:Nat}{v:Value}{k:Nat}{xs:List Value}(h:W.ownsRow base e size v (k+1) xs):∃g cap,v= .slice (some ⟨g,0,none⟩) (k+1) cap:=by
 obtain⟨_,⟨_,h0⟩ | ⟨g,cap,_,hv,_⟩⟩:=h
 ·omega
 ·exact⟨g,cap,hv⟩
theorem asx {w:World}{A A2:Option Addr}{l:List ay}{b n c:Nat}{T:TypeId}{s:ByteArray}(h:Rd w (fun _=>True) A (bE l))(hb:Bk w b T [.string s,.slice A2 n c]):Rd w (fun i=>i≠b) A (bE l):=by
 intro hx
 obtain⟨q,off,e,_,hc⟩:=h.ex hx
 have h0:∃z,(bE l)[0]? =some (.int .i64 z):=by
  cases l with
  |nil=>exact absurd rfl hx
  |cons y l=>exact⟨y.1,rfl⟩
 obtain⟨z,hz⟩:=h0
 obtain⟨ad,e2,_,hc2⟩:=h hx
 rw[e] at e2
 obtain rfl:=zx e2
 refine⟨_,e,fun eq=>?_,hc2⟩
 obtain rfl:q=b:=eq
 have h1:=hc 0 _ hz
 rw[Nat.add_zero] at h1
 match off,h1 with
 |0,h1=>rw[hb.cell 0 rfl] at h1;cases h1
 |1,h1=>rw[hb.cell 1 rfl] at h1;cases h1
 |k+2,h1=>
  have hb2:w.heap[q]? =some (.cells [.string s,.slice A2 n c].toArray T (0,0)):=hb
  simp[World.cell?,hb2] at h1
theorem MW {w:World}{A:Option Addr}{l:List ay}{b:Nat}{T:TypeId}{p:Nat→Prop}(h:Rd w p A (bE l))(hb:Bk w b T [.int .i64 0,.slice none 0 0,.string ⟨#[]⟩,.slice none 0 0,.bool false]):Rd w (fun i=>i≠b) A (bE l):=by
 intro hx
 obtain⟨q,off,e,_,hc⟩:=h.ex hx
 have h0:∃z y,(bE l)[0]? =some (.int .i64 z)∧(bE l)[1]? =some (.int .i64 y):=by
  cases l with
  |nil=>exact absurd rfl hx
  |cons y l=>exact⟨y.1,y.2.1,rfl,rfl⟩
 obtain⟨z,y,hz,hy⟩:=h0
 obtain⟨ad,e2,_,hc2⟩:=h hx
 rw[e] at e2
 obtain rfl:=zx e2
 refine⟨_,e,fun eq=>?_,hc2⟩
 obtain rfl:q=b:=eq
 have h1:=hc 0 _ hz
 have h2:=hc 1 _ hy
 rw[Nat.add_zero] at h1
 match off,h1,h2 with
 |0,_,h2=>rw[hb.cell 1 rfl] at h2;cases h2
 |1,h1,_=>rw[hb.cell 1 rfl] at h1;cases h1
 |2,h1,_=>rw[hb.cell 2 rfl] at h1;cases h1
 |3,h1,_=>rw[hb.cell 3 rfl] at h1;cases h1
 |4,h1,_=>rw[hb.cell 4 rfl] at h1;cases h1
 |k+5,h1,_=>
  have hb2:w.heap[q]? =some (.cells [.int .i64 0,.slice none 0 0,.string ⟨#[]⟩,.slice none 0 0,.bool false].toArray T (0,0)):=hb
  simp[World.cell?,hb2] at h1
theorem amM {w:World}{A:Option Addr}{l:List ay}{b:Nat}{T:TypeId}{x:Option Addr}{p:Nat→Prop}(h:Rd w p A (bE l))(hb:Bk w b T [.pointer x]):Rd w (fun i=>i≠b) A (bE l):=by
 intro hx
 obtain⟨q,off,e,_,hc⟩:=h.ex hx
 have h0:∃z,(bE l)[0]? =some (.int .i64 z):=by
  cases l with
  |nil=>exact absurd rfl hx
  |cons y l=>exact⟨y.1,rfl⟩
 obtain⟨z,hz⟩:=h0
 obtain⟨ad,e2,_,hc2⟩:=h hx
 rw[e] at e2
 obtain rfl:=zx e2
 refine⟨_,e,fun eq=>?_,hc2⟩
 obtain rfl:q=b:=eq
 have h1:=hc 0 _ hz
 rw[Nat.add_zero] at h1
 match off,h1 with
 |0,h1=>rw[hb.cell 0 rfl] at h1;cases h1
 |k+1,h1=>
  have hb2:w.heap[q]? =some (.cells [Value.pointer x].toArray T (0,0)):=hb
  simp[World.cell?,hb2] at h1
theorem Ve {X Y Z:World}{r:Option Nat}{b:Nat}(h:X.grownBy Y r)(h':Y.grownBy Z (some b))(hb:X.heap.size≤b):X.grownBy Z r:=
 ⟨h'.os.trans h.os,h'.tape.trans h.tape,h'.output.trans h.output,zt h.size h'.size,fun k hk hne=>(h'.block k (zq hk h.size) fun e=>by have:k=b:=zx e;omega).trans (h.block k hk hne)⟩
structure EO (B:Nat)(w W:World)(bx rb b7:Nat)(A:Option Addr)(N c a:Nat)(pv e0 e1 e2 e3 e4 e5:Value)(d n:Int)(x:dN):Prop where
 bk:Bk W bx 103 (gX A N c a pv e0 e1 e2 e3 e4 e5 d n)
 res:Bk W rb 35 [.int .i64 0,.slice none 0 0,.string ⟨#[]⟩,.slice none 0 0,.bool false]
 jf:Bk W b7 49 (fK x)
 ok:bW B W x
 gr:w.grownBy W (some bx)
 b7:w.heap.size≤b7
section
variable {B:Nat} {w W W':World} {bx rb b7:Nat} {A:Option Addr} {N c a:Nat} {pv e0 e1 e2 e3 e4 e5:Value} {d n:Int} {x:dN}
theorem Ex.eX.keep {B row:Nat}{T:TypeId}{vs0:List Value}{w w':World}{A:Option Addr}{c:Nat}{vs:List Value}(h:eX B w A c vs)(hb:Bk w row T vs0)(hT:T≠65)(hg:w.grownBy w' (some row)):eX B w' A c vs:=by
 rcases h with h | ⟨h0,q,m,cur,rfl,hB,hh,h'⟩
 ·exact .inl h
 ·refine .inr ⟨h0,q,m,cur,rfl,hB,(hg.block q (lt_of_heap hh) fun e=>?_).trans hh,h'⟩
  obtain rfl:=zx e
  have h2:w.heap[q]? =some (.cells vs0.toArray T (0,0)):=hb
  rw[hh] at h2
  have:=zx h2
  injection this with _ h3
  exact hT h3.symm
theorem bW.keep {B row:Nat}{T:TypeId}{vs0:List Value}{w w':World}{x:dN}(h:bW B w x)(hb:Bk w row T vs0)(hT:T≠65)(hg:w.grownBy w' (some row)):bW B w' x:=⟨h.d,h.k,h.o,h.r.keep hb hT hg⟩
theorem EO.after (h:EO B w W bx rb b7 A N c a pv e0 e1 e2 e3 e4 e5 d n x)(hb:Below W.heap.size W W'):EO B w W' bx rb b7 A N c a pv e0 e1 e2 e3 e4 e5 d n x:=
 ⟨h.bk.after hb,h.res.after hb,h.jf.after hb,h.ok.after hb,iJ h.gr (grownBy_below hb _),h.b7⟩
theorem EO.amV (h:EO B w W bx rb b7 A N c a pv e0 e1 e2 e3 e4 e5 d n x):b7≠bx:=fun e=>by
 have h1:W.heap[b7]? =some (.cells (fK x).toArray 49 (0,0)):=h.jf
 have h2:W.heap[bx]? =some (.cells (gX A N c a pv e0 e1 e2 e3 e4 e5 d n).toArray 103 (0,0)):=h.bk
 rw[e,h2] at h1
 have:=zx h1
 injection this with _ h3
 exact absurd h3 (by decide)
theorem EO.amU (h:EO B w W bx rb b7 A N c a pv e0 e1 e2 e3 e4 e5 d n x):b7≠rb:=fun e=>by
 have h1:W.heap[b7]? =some (.cells (fK x).toArray 49 (0,0)):=h.jf
 have h2:W.heap[rb]? =some (.cells _ 35 (0,0)):=h.res
 rw[e,h2] at h1
 have:=zx h1
 injection this with _ h3
 exact absurd h3 (by decide)
theorem EO.write (h:EO B w W bx rb b7 A N c a pv e0 e1 e2 e3 e4 e5 d n x)(hne:rb≠bx){a':Nat}{e0' e1' e2' e3' e4' e5':Value}{d' n':Int}(hb:Bk W' bx 103 (gX A N c a' pv e0' e1' e2' e3' e4' e5' d' n'))(hg:W.grownBy W' (some bx)):EO B w W' bx rb b7 A N c a' pv e0' e1' e2' e3' e4' e5' d' n' x:=
 ⟨hb,(hg.block rb h.res.lt fun e=>hne (zx e)).trans h.res,(hg.block b7 h.jf.lt fun e=>h.amV (zx e)).trans h.jf,h.ok.keep h.bk (by decide) hg,iJ h.gr hg,h.b7⟩
theorem EO.below {w0:World}(h:EO B w W bx rb b7 A N c a pv e0 e1 e2 e3 e4 e5 d n x)(hb0:Below w0.heap.size w0 w)(hbx:w0.heap.size≤bx):Below w0.heap.size w0 W:=hb0.grown h.gr hb0.size fun k e=>by rw[← Option.some.inj e];exact hbx
theorem Ck.jf {pf:List Nat}{AP:Option Addr}{cP r:Nat}{b:Nat}(h:Ck w W bx rb A N c r pf AP cP e0 e1 e2 e3 e4 e5 d n)(hb:Below W.heap.size W W')(hx:bW b W' x)(hB:B≤b):EO B w (W'.alloc (.cells (fK x).toArray 49)) bx rb W'.heap.size A N c r (.slice AP pf.length cP) e0 e1 e2 e3 e4 e5 d n x:=by
 have h':=h.after hb
 have ha:=(zo W'.heap.size W').alloc (zu _) (.cells (fK x).toArray 49)
 exact⟨h'.bk.after ha,h'.res.after ha,Bk.new W' _ _,(hx.mono hB).after ha,iJ h'.gr (grownBy_below ha _),h'.gr.size⟩
end
set_option maxRecDepth 100000 in
set_option maxHeartbeats 8000000 in
theorem abI {w0:World}(hG:gJ w0)(p o:Nat)(d:aJ)(hp:p≤6)(ho:o < 256)(hd:gL p o=some d)(hk:d.1=1)(dv nv:Int)(hdv:pK (mP d) dv=true)(hnv:pK (oW d) nv=true)(V:List Value)(a1:Nat)(hH:ItH p o d.2.2.1 dv nv V a1)(h1:∀u∈V,u.oneCell'=true)(A:Option Addr)(N c:Nat)(hN:V.length=N)(hm:(N:Int)≤1000)(hc:N≤c)(ha1:1≤a1)(haN:a1≤N)(bx:Nat)(w:World)(q:Nat→Prop)
 (hb:Bk w bx 103 (gX A N c 0 (.slice none 0 0) (.int .i64 0) (.int .u8 0) (.string ⟨#[]⟩) (.slice none 0 0) (.string ⟨#[]⟩) (.bool false) 0 0)) (hbx:w0.heap.size≤bx) (hb0:Below w0.heap.size w0 w) (hr:Rd w0 q A V):
 Calls Tryz.prog 52 #[.pointer (some ⟨bx,0,none⟩)] w fun e w'=>∃A' c' A'' c'',e= .returned (.agg #[.int .i64 1,.slice A' a1 c',.string (aa d.2.1),.slice A'' (opsL d.2.2.2.2).length c'',.bool d.2.2.2.1])∧Rd w' (fun i=>w.heap.size≤i) A' (V.take a1)∧Rd w' (fun _=>True) A'' (bE (mr (mP d) (oW d) (opsL d.2.2.2.2) dv nv))∧w.grownBy w' (some bx):=by
 have HR:Hid (∀W,Below w0.heap.size w0 W→Rd W (fun i=>i < w0.heap.size) A V):=fun W hb=>(hr.mono (q:=fun i=>i < w0.heap.size) fun i hi _=>hi).below hb fun i _ hi=>hi
 have CP:Hid (∀W (l:List Nat) (AP:Option Addr) (cP:Nat),Below w0.heap.size w0 W→l∈sD→W.ownsRow w0.heap.size 5 1 (.slice AP l.length cP) l.length (u8V l)→(l=[]→AP=none∧cP=0)→Calls Tryz.prog 101 #[.slice AP l.length cP] W fun e w'=>e= .returned (.tuple #[.int .i64 (LM l:Nat),.bool true])∧Below W.heap.size W w'):=fun W l AP cP hb hl ho hn=>LP hG hb hl ho hn
 have CT:Hid (∀(a:Nat) (pv e0 e1 e2 e3 e4 e5:Value) (d n z:Int) W,Below w0.heap.size w0 W→Bk W bx 103 (gX A N c a pv e0 e1 e2 e3 e4 e5 d n)→V[a]? =some (.int .u8 z)→Calls Tryz.prog 103 #[.pointer (some ⟨bx,0,none⟩)] W fun e w'=>e= .returned (.int .u8 z)∧Bk w' bx 103 (gX A N c (a+1) pv e0 e1 e2 e3 e4 e5 d n)∧W.grownBy w' (some bx)):=fun a pv e0 e1 e2 e3 e4 e5 d n z W hb hk hz=>Am bx A N c a pv e0 e1 e2 e3 e4 e5 d n V z W _ hk (HR.out W hb) (fun i hi=>by omega) hz hN hm
 have CE:Hid (∀(l:List Nat) (a a2:Nat) (pv e0 e1 e2 e3 e4 e5:Value) (d n d2 n2:Int) W,(∀x∈l,x < 128)→Below w0.heap.size w0 W→Bk W bx 103 (gX A N c a pv e0 e1 e2 e3 e4 e5 d n)→Ext V l a d n a2 d2 n2→Calls Tryz.prog 102 #[.pointer (some ⟨bx,0,none⟩),.string (aa l)] W fun e w'=>e= .returned (.tuple #[])∧Bk w' bx 103 (gX A N c a2 pv e0 e1 e2 e3 e4 e5 d2 n2)∧W.grownBy w' (some bx)):=fun l a a2 pv e0 e1 e2 e3 e4 e5 d n d2 n2 W hl hb hk hE=>Vs l hl bx A N c a pv e0 e1 e2 e3 e4 e5 d n V a2 d2 n2 W _ hk (HR.out W hb) (fun i hi=>by omega) hN hm hE
 have CR:Hid (∀(k a:Nat) (pv e0 e1 e2 e3 e4 e5:Value) (d n:Int) W,Below w0.heap.size w0 W→Bk W bx 103 (gX A N c a pv e0 e1 e2 e3 e4 e5 d n)→1≤k→k≤N→Calls Tryz.prog 51 #[.pointer (some ⟨bx,0,none⟩),.int .i64 (k:Int)] W fun e w'=>∃A' c',e= .returned (.slice A' k c')∧w'.ownsRow W.heap.size 5 1 (.slice A' k c') k (V.take k)∧Below W.heap.size W w'):=fun k a pv e0 e1 e2 e3 e4 e5 d n W hb hk h2 h3=>af2 bx A N c k a pv e0 e1 e2 e3 e4 e5 d n V W _ hk (HR.out W hb) h1 hN hm h2 h3 hc
 have CA2:Hid (∀(p o:Nat) (d:aJ) W,gL p o=some d→Below w0.heap.size w0 W→Calls Tryz.prog 104 #[.int .i64 (p:Int),.int .u8 (o:Int)] W fun e w'=>∃(p' o':Int) (nm ex:ByteArray) (al:Bool) (A:Option Addr) (n c:Nat),e= .returned (.tuple #[.agg #[.int .i64 p',.int .u8 o',.string nm,.slice A n c,.string ex,.bool al],.int .i64 (d.1:Int)])∧Below W.heap.size W w'):=fun p o d W hd hb=>Kj hd W (hG.after hb)
 have CA1:Hid (∀W,Below w0.heap.size w0 W→Calls Tryz.prog 104 #[.int .i64 (p:Int),.int .u8 (o:Int)] W fun e w'=>∃A c,e= .returned (.tuple #[.agg #[.int .i64 (p:Int),.int .u8 (o:Int),.string (aa d.2.1),.slice A (d.2.2.2.2.length / 3) c,.string (aa d.2.2.1),.bool d.2.2.2.1],.int .i64 1])∧eX W.heap.size w' A c (lQ d)∧Below W.heap.size W w'):=fun W hb=>adb hd hk W (hG.after hb)
 have CF:Hid (∀(x:dN) W,Below w0.heap.size w0 W→bW w0.heap.size W x→x.2.1=d→Calls Tryz.prog 38 #[iX x,.int .i64 dv,.int .i64 nv] W fun e w'=>∃A' c',e= .returned (.tuple #[.agg #[.string (aa d.2.1),.slice A' (opsL d.2.2.2.2).length c'],.bool true])∧Rd w' (fun _=>True) A' (bE (mr (mP d) (oW d) (opsL d.2.2.2.2) dv nv))∧Below W.heap.size W w'):=fun x W hb hx hxd=>by
  subst hxd
  exact ahb hG hb hx dv nv hdv hnv
 have HEX:Hid (∀x∈d.2.2.1,x < 128):=by
  have:=(jh hd).2.2.1
  intro x hx
  exact an2 this x hx
 have H0:Hid (Ck w (w.alloc (.cells #[.int .i64 0,.slice none 0 0,.string ⟨#[]⟩,.slice none 0 0,.bool false] 35)) bx w.heap.size A N c 0 [] none 0 (.int .i64 0) (.int .u8 0) (.string ⟨#[]⟩) (.slice none 0 0) (.string ⟨#[]⟩) (.bool false) 0 0):=⟨hb.alloc _,World.ownsRow_nil _ _ _ _,fun _=>⟨rfl,rfl⟩,Bk.new w _ _,World.grownBy_alloc w _ _,zu _⟩
 have HBX:=zz (show w.heap.size≠bx from fun e=>by have:=hb.lt;omega)
 have HK:=zz hk
 have HH:=zz (zy hH (zy hp (zy ho hd)))
 have HB0:=zz (zy hb0 hbx)
 have HA1:=zz (zy ha1 haN)
 clear hb hbx hb0 hr h1 hN hc hH hdv hnv ha1 haN hG hd hk
 go_enter Tryz.func52,Tryz.ntmps52
 go_wp2
 obtain⟨rb,hrb⟩:∃b,w.heap.size=b:=⟨_,rfl⟩
 rw[hrb] at H0 HBX ⊢
 generalize w.alloc (.cells #[.int .i64 0,.slice none 0 0,.string ⟨#[]⟩,.slice none 0 0,.bool false] 35)=W0 at H0 ⊢
 go_loopw [3] (fun _ wr=>∃(r:Nat) (AP:Option Addr) (cP:Nat),r≤(bL p).length∧Hid (Ck w wr bx rb A N c r ((bL p).take r) AP cP (.int .i64 0) (.int .u8 0) (.string ⟨#[]⟩) (.slice none 0 0) (.string ⟨#[]⟩) (.bool false) 0 0)) (fun _ wr=>10 - (match wr.cell? ⟨bx,1,none⟩ with | some v=>(intOf v).toNat | none=>0))
 case atStart=>exact⟨0,none,0,Nat.zero_le _,H0.out⟩
 case round=>
  obtain⟨r,AP,cP,hr,hw⟩:=hrel
  clear H0
  have ab2:=hw.out.below HB0.out.1 HB0.out.2
  have hrw:wr.cell? ⟨bx,1,none⟩=some (.int .i64 (r:Int)):=hw.out.bk.cell 1 rfl
  by_cases hlt:r < (bL p).length
  ·obtain⟨z,hz⟩:∃z,(bL p)[r]? =some z:=⟨_,List.getElem?_eq_getElem hlt⟩
   obtain⟨hmem,hp5,azf,dd,hdd,hd2⟩:=ai6 HH.out.2.1 hz
   have hVz:=HH.out.1.pre r z hz
   have htk:(bL p).take (r+1)=(bL p).take r++[z]:=by
    rw[List.take_add_one,hz]
    rfl
   obtain⟨pf,hpf⟩:∃pf,(bL p).take r=pf:=⟨_,rfl⟩
   have hpl:pf.length=r:=by
    rw[← hpf,List.length_take]
    omega
   rw[hpf] at hw hmem hp5 hdd htk
   obtain⟨pg,uG⟩:∃pg,LM pf=pg:=⟨_,rfl⟩
   rw[uG] at hp5 hdd
   have CPx:=CP.out wr pf AP cP ab2 hmem (own_base' hw.out.own (by have:=HB0.out.1.size;omega)) hw.out.nil
   rw[uG] at CPx
   have CPx:=zz CPx
   have CTx:=zz (fun W hb hk=>CT.out r (.slice AP pf.length cP) (.int .i64 0) (.int .u8 0) (.string ⟨#[]⟩) (.slice none 0 0) (.string ⟨#[]⟩) (.bool false) 0 0 (z:Int) W hb hk hVz)
   have CAx:=zz (fun W hb=>CA2.out pg z dd W hdd hb)
   have h5:¬((5:Int)≤(pg:Int)):=by omega
   have h5d:decide ((5:Int)≤(pg:Int))=false:=decide_eq_false h5
   have HTK:=zz (zy htk hpl)
   have ani:=zz hlt
   have HD2:=zz hd2
   have y2:=hw.out.bk.cell 2 rfl
   clear hz hmem hdd hVz htk hpf uG CA1 CF CE CR ab2 hd2
   obtain⟨np,hnp⟩:∃np,pf.length=np:=⟨_,rfl⟩
   rw[hnp] at y2
   have CPy:Hid (Calls Tryz.prog 101 #[.slice AP np cP] wr fun e w'=>e= .returned (.tuple #[.int .i64 (pg:Int),.bool true])∧Below wr.heap.size wr w'):=hnp ▸ CPx.out
   clear CPx
   obtain⟨kd,hkd⟩:∃kd:Int,(dd.1:Int)=kd:=⟨_,rfl⟩
   rw[hkd] at CAx
   have hk2:kd=2:=by rw[← hkd,HD2.out];rfl
   subst hk2
   go_upto_region 9 with (first
    |(go_at_call 101;refine CPy.out.mono ?_;rintro e w2 ⟨rfl,hb⟩;have H2:=zz (hw.out.after hb);clear hb)
    |(go_at_call 103;refine (CTx.out _ (H2.out.below HB0.out.1 HB0.out.2) H2.out.bk).mono ?_;rintro e w3 ⟨rfl,hb3,hg3⟩;have H3:=zz (H2.out.write HBX.out hb3 hg3);clear hb3 hg3)
    |(go_at_call 104;refine (CAx.out _ (H3.out.below HB0.out.1 HB0.out.2)).mono ?_;rintro e w4 ⟨p',o',uS,ex',al',A9,n9,c9,rfl,hb⟩;have H4:=zz ((H3.out.after hb).after ((zo w4.heap.size w4).alloc (zu _) (.cells #[.int .i64 p',.int .u8 o',.string uS,.slice A9 n9 c9,.string ex',.bool al'] 49)));clear hb))
   obtain⟨b7,Np⟩:∃b,w4.heap.size=b:=⟨_,rfl⟩
   rw[Np]
   generalize (w4.alloc (.cells #[.int .i64 p',.int .u8 o',.string uS,.slice A9 n9 c9,.string ex',.bool al'] 49))=W4 at H4 ⊢
   clear Np y2 CPy CTx CAx hw
   have H5:=zz (H4.out.after ((zo W4.heap.size W4).alloc (zu _) (.cells #[.int .u8 (z:Int)] 5)))
   have x2:W4.cell? ⟨bx,2,none⟩=some (.slice AP np cP):=by
    have:=H4.out.bk.cell 2 rfl
    rw[hnp] at this
    exact this
   have hrd:=Rd.new W4 #[.int .u8 (z:Int)] 5 (p:=fun _=>True) trivial
   have hown1:=H5.out.own
   rw[hnp] at hown1
   have aAM:np≤10:=by
    have h1:=HTK.out.2
    have h2:=ani.out
    have h3:(bL p).length≤2:=FN p
    omega
   have HS5:=zz H5.out.gr.size
   have ayO:Hid (∀(W':World) (g' c':Nat),W'.ownsRow w.heap.size 5 1 (.slice (some ⟨g',0,none⟩) (np+1) c') (np+1) (u8V pf++[.int .u8 (z:Int)])→(W4.alloc (.cells #[.int .u8 (z:Int)] 5)).grownBy W' (Value.slice AP np cP).ownBlock→Bk W' bx 103 (gX A N c (r+1) (.slice AP np cP) (.int .i64 0) (.int .u8 0) (.string ⟨#[]⟩) (.slice none 0 0) (.string ⟨#[]⟩) (.bool false) 0 0)∧Ck w (W'.setCell ⟨bx,2,none⟩ (.slice (some ⟨g',0,none⟩) (np+1) c')) bx rb A N c (r+1) (pf++[z]) (some ⟨g',0,none⟩) c' (.int .i64 0) (.int .u8 0) (.string ⟨#[]⟩) (.slice none 0 0) (.string ⟨#[]⟩) (.bool false) 0 0):=by
    have h5:=H5.out
    subst hnp
    exact zz fun W' g' c' ho hg=>h5.app HBX.out ho hg
   clear hnp
   go_wp2_with (at_builtin;(refine eY jN rfl (.tmp 41) (.tmp 43) rfl w.heap.size _ np (u8V pf) (fun _=>True) (some ⟨W4.heap.size,0,none⟩) 1 1 _ rfl rfl hown1 rfl hrd (by simp[Value.oneCell']) (by simp only[maxLen];omega) (by omega) HS5.out ?_;intro v' w5 hown2 hg1 Nq hz1;obtain⟨g',c',rfl⟩:=Zx hown2;have H6:=zz (ayO.out _ _ _ hown2 hg1);have u2:=H6.out.1.cell 2 rfl;have f2:=H6.out.1.frozen 2;clear hown2 hg1 Nq hz1))
   have H7:=zz H6.out.2
   rw[← HTK.out.1] at H7
   have hrn:(w5.setCell ⟨bx,2,none⟩ (.slice (some ⟨g',0,none⟩) (np+1) c')).cell? ⟨bx,1,none⟩=some (.int .i64 ((r+1:Nat):Int)):=H7.out.bk.cell 1 rfl
   have hr2:r+1≤2:=by
    have h2:=ani.out
    have h3:(bL p).length≤2:=FN p
    omega
   go_roundw
   case rel=>exact⟨r+1,_,_,ani.out,H7.out⟩
   case measure=>rw[hrn,hrw];show 10 - ((r+1:Nat):Int).toNat < 10 - ((r:Nat):Int).toNat;omega
  ·have hre:r=(bL p).length:=by omega
   subst hre
   rw[List.take_length] at hw
   obtain⟨hmem,uG⟩:=afi HH.out.2.1
   have CPx:=CP.out wr (bL p) AP cP ab2 hmem (own_base' hw.out.own (by have:=HB0.out.1.size;omega)) hw.out.nil
   rw[uG] at CPx
   have CPx:=zz CPx
   obtain⟨np,hnp⟩:∃np,(bL p).length=np:=⟨_,rfl⟩
   have y2:=hw.out.bk.cell 2 rfl
   rw[hnp] at y2
   have CPy:Hid (Calls Tryz.prog 101 #[.slice AP np cP] wr fun e w'=>e= .returned (.tuple #[.int .i64 (p:Int),.bool true])∧Below wr.heap.size wr w'):=hnp ▸ CPx
   clear CPx uG hmem hr
   by_cases h5:5≤p
   case' pos=>
    have h5d:decide ((5:Int)≤(p:Int))=true:=decide_eq_true (by omega)
    obtain⟨hE,hV,hn0,ha⟩:=HH.out.1.early h5
    have CEx:=zz (fun W hb hk=>CE.out [100] (bL p).length ((bL p).length+1) (.slice AP (bL p).length cP) (.int .i64 0) (.int .u8 0) (.string ⟨#[]⟩) (.slice none 0 0) (.string ⟨#[]⟩) (.bool false) 0 0 dv 0 W (by intro x hx;simp at hx;omega) hb hk hE)
    have CTx:=zz (fun W hb hk=>CT.out ((bL p).length+1) (.slice AP (bL p).length cP) (.int .i64 0) (.int .u8 0) (.string ⟨#[]⟩) (.slice none 0 0) (.string ⟨#[]⟩) (.bool false) dv 0 (o:Int) W hb hk hV)
    have CAx:=zz (fun W hb=>CA1.out W hb)
    have asZ:(⟨#[100]⟩:ByteArray)=aa [100]:=rfl
    clear hE hV ab2 CP CT CE CA2 hnp
    go_upto_region 14 with (first
     |(go_at_call 101;refine CPy.out.mono ?_;rintro e w2 ⟨rfl,hb⟩;have H2:=zz (hw.out.after hb);clear hb)
     |(go_at_call 102;(refine (CEx.out _ (H2.out.below HB0.out.1 HB0.out.2) H2.out.bk).mono ?_;rintro e w3 ⟨rfl,hb3,hg3⟩;have H3:=zz (H2.out.write HBX.out hb3 hg3);clear hb3 hg3))
     |(go_at_call 103;refine (CTx.out _ (H3.out.below HB0.out.1 HB0.out.2) H3.out.bk).mono ?_;rintro e w4 ⟨rfl,hb3,hg3⟩;have H4:=zz (H3.out.write HBX.out hb3 hg3);clear hb3 hg3)
     |(go_at_call 104;refine (CAx.out _ (H4.out.below HB0.out.1 HB0.out.2)).mono ?_;rintro e w5 ⟨A9,c9,rfl,hrow,hb⟩;have H5:=zz (H4.out.jf (x:=((p,o),d,A9,c9)) (B:=w0.heap.size) hb ⟨HH.out.2.2.2,HK.out,HH.out.2.2.1,hrow⟩ (H4.out.below HB0.out.1 HB0.out.2).size);clear hb hrow))
    obtain⟨b7,Np⟩:∃b,w5.heap.size=b:=⟨_,rfl⟩
    rw[Np] at H5 ⊢
    have H5:Hid (EO w0.heap.size w (w5.alloc (.cells #[.int .i64 (p:Int),.int .u8 (o:Int),.string (aa d.2.1),.slice A9 (d.2.2.2.2.length / 3) c9,.string (aa d.2.2.1),.bool d.2.2.2.1] 49)) bx rb b7 A N c ((bL p).length+1+1) (.slice AP (bL p).length cP) (.int .i64 0) (.int .u8 0) (.string ⟨#[]⟩) (.slice none 0 0) (.string ⟨#[]⟩) (.bool false) dv 0 ((p,o),d,A9,c9)):=H5
    generalize w5.alloc (.cells #[.int .i64 (p:Int),.int .u8 (o:Int),.string (aa d.2.1),.slice A9 (d.2.2.2.2.length / 3) c9,.string (aa d.2.2.1),.bool d.2.2.2.1] 49)=W5 at H5 ⊢
    clear Np
    have z0:W5.cell? ⟨b7,0,none⟩=some (.int .i64 (p:Int)):=H5.out.jf.cell 0 rfl
    have z1:W5.cell? ⟨b7,1,none⟩=some (.int .u8 (o:Int)):=H5.out.jf.cell 1 rfl
    have z2:W5.cell? ⟨b7,2,none⟩=some (.string (aa d.2.1)):=H5.out.jf.cell 2 rfl
    have z3:W5.cell? ⟨b7,3,none⟩=some (.slice A9 (d.2.2.2.2.length / 3) c9):=H5.out.jf.cell 3 rfl
    have z4:W5.cell? ⟨b7,4,none⟩=some (.string (aa d.2.2.1)):=H5.out.jf.cell 4 rfl
    have z5:W5.cell? ⟨b7,5,none⟩=some (.bool d.2.2.2.1):=H5.out.jf.cell 5 rfl
    go_upto_region 17 with (refine iR rfl 49 (.tmp 69) (.tmp 67) rfl bx 3 (fK ((p,o),d,A9,c9)) rfl rfl 103 _ H5.out.bk rfl (by simp[gX,fK]) (by simp[fK,Value.oneCell']) ?_;intro w6 hb6 hg6;have H6:=zz (H5.out.write HBX.out (a':=(bL p).length+1+1) (e0':=.int .i64 (p:Int)) (e1':=.int .u8 (o:Int)) (e2':=.string (aa d.2.1)) (e3':=.slice A9 (d.2.2.2.2.length / 3) c9) (e4':=.string (aa d.2.2.1)) (e5':=.bool d.2.2.2.1) (d':=dv) (n':=0) hb6 hg6);clear hb6 hg6)
    have K6:Hid (EO w0.heap.size w w6 bx rb b7 A N c a1 (.slice AP (bL p).length cP) (.int .i64 (p:Int)) (.int .u8 (o:Int)) (.string (aa d.2.1)) (.slice A9 (d.2.2.2.2.length / 3) c9) (.string (aa d.2.2.1)) (.bool d.2.2.2.1) dv nv ((p,o),d,A9,c9)):=by
     rw[hn0,ha]
     exact H6
    clear z0 z1 z2 z3 z4 z5 H4 H5 H6 hn0 ha HK CPy CTx CAx CEx asZ h5d h5
   case' neg=>
    have h5d:decide ((5:Int)≤(p:Int))=false:=decide_eq_false (by omega)
    obtain⟨hV,hE⟩:=HH.out.1.late (by omega)
    have CTx:=zz (fun W hb hk=>CT.out (bL p).length (.slice AP (bL p).length cP) (.int .i64 0) (.int .u8 0) (.string ⟨#[]⟩) (.slice none 0 0) (.string ⟨#[]⟩) (.bool false) 0 0 (o:Int) W hb hk hV)
    have CAx:=zz (fun W hb=>CA1.out W hb)
    have CEx:=zz (fun e0 e1 e2 e3 e4 e5 W hb hk=>CE.out d.2.2.1 ((bL p).length+1) a1 (.slice AP (bL p).length cP) e0 e1 e2 e3 e4 e5 0 0 dv nv W HEX.out hb hk hE)
    clear hE hV ab2 CP CT CE CA2 hnp
    go_upto_region 14 with (first
     |(go_at_call 101;refine CPy.out.mono ?_;rintro e w2 ⟨rfl,hb⟩;have H3:=zz (hw.out.after hb);clear hb)
     |(go_at_call 103;refine (CTx.out _ (H3.out.below HB0.out.1 HB0.out.2) H3.out.bk).mono ?_;rintro e w4 ⟨rfl,hb3,hg3⟩;have H4:=zz (H3.out.write HBX.out hb3 hg3);clear hb3 hg3)
     |(go_at_call 104;refine (CAx.out _ (H4.out.below HB0.out.1 HB0.out.2)).mono ?_;rintro e w5 ⟨A9,c9,rfl,hrow,hb⟩;have H5:=zz (H4.out.jf (x:=((p,o),d,A9,c9)) (B:=w0.heap.size) hb ⟨HH.out.2.2.2,HK.out,HH.out.2.2.1,hrow⟩ (H4.out.below HB0.out.1 HB0.out.2).size);clear hb hrow))
    obtain⟨b7,Np⟩:∃b,w5.heap.size=b:=⟨_,rfl⟩
    rw[Np] at H5 ⊢
    have H5:Hid (EO w0.heap.size w (w5.alloc (.cells #[.int .i64 (p:Int),.int .u8 (o:Int),.string (aa d.2.1),.slice A9 (d.2.2.2.2.length / 3) c9,.string (aa d.2.2.1),.bool d.2.2.2.1] 49)) bx rb b7 A N c ((bL p).length+1) (.slice AP (bL p).length cP) (.int .i64 0) (.int .u8 0) (.string ⟨#[]⟩) (.slice none 0 0) (.string ⟨#[]⟩) (.bool false) 0 0 ((p,o),d,A9,c9)):=H5
    generalize w5.alloc (.cells #[.int .i64 (p:Int),.int .u8 (o:Int),.string (aa d.2.1),.slice A9 (d.2.2.2.2.length / 3) c9,.string (aa d.2.2.1),.bool d.2.2.2.1] 49)=W5 at H5 ⊢
    clear Np
    have z0:W5.cell? ⟨b7,0,none⟩=some (.int .i64 (p:Int)):=H5.out.jf.cell 0 rfl
    have z1:W5.cell? ⟨b7,1,none⟩=some (.int .u8 (o:Int)):=H5.out.jf.cell 1 rfl
    have z2:W5.cell? ⟨b7,2,none⟩=some (.string (aa d.2.1)):=H5.out.jf.cell 2 rfl
    have z3:W5.cell? ⟨b7,3,none⟩=some (.slice A9 (d.2.2.2.2.length / 3) c9):=H5.out.jf.cell 3 rfl
    have z4:W5.cell? ⟨b7,4,none⟩=some (.string (aa d.2.2.1)):=H5.out.jf.cell 4 rfl
    have z5:W5.cell? ⟨b7,5,none⟩=some (.bool d.2.2.2.1):=H5.out.jf.cell 5 rfl
    go_upto_region 17 with (first
     |(refine iR rfl 49 (.tmp 69) (.tmp 67) rfl bx 3 (fK ((p,o),d,A9,c9)) rfl rfl 103 _ H5.out.bk rfl (by simp[gX,fK]) (by simp[fK,Value.oneCell']) ?_;intro w7 hb6 hg6;have H6:=zz (H5.out.write HBX.out (a':=(bL p).length+1) (e0':=.int .i64 (p:Int)) (e1':=.int .u8 (o:Int)) (e2':=.string (aa d.2.1)) (e3':=.slice A9 (d.2.2.2.2.length / 3) c9) (e4':=.string (aa d.2.2.1)) (e5':=.bool d.2.2.2.1) (d':=0) (n':=0) hb6 hg6);have z6:w7.cell? ⟨b7,4,none⟩=some (.string (aa d.2.2.1)):=H6.out.jf.cell 4 rfl;clear hb6 hg6)
     |(go_at_call 102;(refine (CEx.out _ _ _ _ _ _ _ (H6.out.below HB0.out.1 HB0.out.2) H6.out.bk).mono ?_;rintro e w6 ⟨rfl,hb3,hg3⟩;have K6:=zz (H6.out.write HBX.out hb3 hg3);clear hb3 hg3 z6)))
    have K6:Hid (EO w0.heap.size w w6 bx rb b7 A N c a1 (.slice AP (bL p).length cP) (.int .i64 (p:Int)) (.int .u8 (o:Int)) (.string (aa d.2.1)) (.slice A9 (d.2.2.2.2.length / 3) c9) (.string (aa d.2.2.1)) (.bool d.2.2.2.1) dv nv ((p,o),d,A9,c9)):=K6
    clear z0 z1 z2 z3 z4 z5 H3 H4 H5 H6 HK CPy CTx CAx CEx h5d h5
   all_goals
    have hal:=(zo w6.heap.size w6).alloc (zu _) (.cells #[.string ⟨#[]⟩,.slice none 0 0] 24)
    have H7:Hid (EO w0.heap.size w ((w6.alloc (.cells #[.string ⟨#[]⟩,.slice none 0 0] 24)).drew) bx rb b7 A N c a1 (.slice AP (bL p).length cP) (.int .i64 (p:Int)) (.int .u8 (o:Int)) (.string (aa d.2.1)) (.slice A9 (d.2.2.2.2.length / 3) c9) (.string (aa d.2.2.1)) (.bool d.2.2.2.1) dv nv ((p,o),d,A9,c9)∧Bk ((w6.alloc (.cells #[.string ⟨#[]⟩,.slice none 0 0] 24)).drew) w6.heap.size 24 [.string ⟨#[]⟩,.slice none 0 0]):=zz ⟨K6.out.after (aM hal),(Bk.new w6 24 [.string ⟨#[]⟩,.slice none 0 0]).drew⟩
    have E0:=K6.out.jf.cell 0 rfl
    have E1:=K6.out.jf.cell 1 rfl
    have E2:=K6.out.jf.cell 2 rfl
    have E3:=K6.out.jf.cell 3 rfl
    have E4:=K6.out.jf.cell 4 rfl
    have E5:=K6.out.jf.cell 5 rfl
    have E9:w6.cell? ⟨bx,9,none⟩=some (.int .i64 dv):=K6.out.bk.cell 9 rfl
    have E10:w6.cell? ⟨bx,10,none⟩=some (.int .i64 nv):=K6.out.bk.cell 10 rfl
    have K7:=zz (K6.out.after (aM (zo w6.heap.size w6)))
    have BA:=zz (aM hal)
    have BB:=zz (aM (zo w6.heap.size w6))
    have CFx:=zz (CF.out ((p,o),d,A9,c9) _ (H7.out.1.below HB0.out.1 HB0.out.2) H7.out.1.ok rfl)
    have CFy:=zz (CF.out ((p,o),d,A9,c9) _ (K7.out.below HB0.out.1 HB0.out.2) K7.out.ok rfl)
    have n0:=World.new_ne w6 _ E0
    have n1:=World.new_ne w6 _ E1
    have n2:=World.new_ne w6 _ E2
    have n3:=World.new_ne w6 _ E3
    have n4:=World.new_ne w6 _ E4
    have n5:=World.new_ne w6 _ E5
    have n9:=World.new_ne w6 _ E9
    have n10:=World.new_ne w6 _ E10
    have hn1:b7≠w6.heap.size:=Nat.ne_of_lt K6.out.jf.lt
    have hn2:bx≠w6.heap.size:=Nat.ne_of_lt K6.out.bk.lt
    have HSZ:=zz (show w6.heap.size < w6.heap.size+1 from Nat.lt_succ_self _)
    clear CF hal
    dsimp only[fK,List.toArray] at E0 E1 E2 E3 E4 E5
    go_region_held3 (fun w'=>w'.cell? ⟨b7,0,none⟩=some (.int .i64 (p:Int))∧w'.cell? ⟨b7,1,none⟩=some (.int .u8 (o:Int))∧w'.cell? ⟨b7,2,none⟩=some (.string (aa d.2.1))∧w'.cell? ⟨b7,3,none⟩=some (.slice A9 (d.2.2.2.2.length / 3) c9)∧w'.cell? ⟨b7,4,none⟩=some (.string (aa d.2.2.1))∧w'.cell? ⟨b7,5,none⟩=some (.bool d.2.2.2.1)∧w'.cell? ⟨bx,9,none⟩=some (.int .i64 dv)∧w'.cell? ⟨bx,10,none⟩=some (.int .i64 nv)) (first | assumption | go_keep) (first
     |(go_at_call 38;refine CFx.out.mono ?_;rintro e w8 ⟨A8,c8,rfl,hr8,hb8⟩;have Xh:=zz (BA.out.trans (hb8.mono BA.out.size));have H8:=zz (H7.out.1.after hb8);have HI8:=zz (H7.out.2.after hb8);have i0:=HI8.out.cell 0 rfl;have i1:=HI8.out.cell 1 rfl;have if0:=HI8.out.frozen 0;have if1:=HI8.out.frozen 1;have KC:=zz hr8;have F0:=H8.out.jf.cell 0 rfl;have F1:=H8.out.jf.cell 1 rfl;have F2:=H8.out.jf.cell 2 rfl;have F3:=H8.out.jf.cell 3 rfl;have F4:=H8.out.jf.cell 4 rfl;have F5:=H8.out.jf.cell 5 rfl;have F9:=H8.out.bk.cell 9 rfl;have F10:=H8.out.bk.cell 10 rfl;clear hb8 hr8)
     |(go_at_call 38;refine CFy.out.mono ?_;rintro e w8 ⟨A8,c8,rfl,hr8,hb8⟩;have Xh:=zz (BB.out.trans (hb8.mono BB.out.size));have H8:=zz (K7.out.after hb8);have KC:=zz hr8;have F0:=H8.out.jf.cell 0 rfl;have F1:=H8.out.jf.cell 1 rfl;have F2:=H8.out.jf.cell 2 rfl;have F3:=H8.out.jf.cell 3 rfl;have F4:=H8.out.jf.cell 4 rfl;have F5:=H8.out.jf.cell 5 rfl;have F9:=H8.out.bk.cell 9 rfl;have F10:=H8.out.bk.cell 10 rfl;clear hb8 hr8))
    all_goals
     have H9:Hid (∃(W9:World),True):=zz ⟨w6,trivial⟩
     clear F0 F1 F2 F3 F4 F5 F9 F10 n0 n1 n2 n3 n4 n5 n9 n10 E0 E1 E2 E3 E4 E5 E9 E10 CFx CFy H9
     go_wp2
     first
      |(
        have G1:Hid (Below w6.heap.size w6 ((w8.setCell ⟨w6.heap.size,0,none⟩ (.string (aa d.2.1))).setCell ⟨w6.heap.size,1,none⟩ (.slice A8 (opsL d.2.2.2.2).length c8))):=zz ((Xh.out.setCell (zu _) _).setCell (zu _) _)
        have G2:Hid (Bk ((w8.setCell ⟨w6.heap.size,0,none⟩ (.string (aa d.2.1))).setCell ⟨w6.heap.size,1,none⟩ (.slice A8 (opsL d.2.2.2.2).length c8)) w6.heap.size 24 [.string (aa d.2.1),.slice A8 (opsL d.2.2.2.2).length c8]):=zz ((HI8.out.set 0 (.string (aa d.2.1))).set 1 (.slice A8 (opsL d.2.2.2.2).length c8))
        have G3:Hid (Rd ((w8.setCell ⟨w6.heap.size,0,none⟩ (.string (aa d.2.1))).setCell ⟨w6.heap.size,1,none⟩ (.slice A8 (opsL d.2.2.2.2).length c8)) (fun _=>True) A8 (bE (mr (mP d) (oW d) (opsL d.2.2.2.2) dv nv))):=zz (((asx KC.out HI8.out).keep fun i _ hi=>(Below.heap_setCell _ _ _ _ hi).trans (Below.heap_setCell _ _ _ _ hi)).mono fun _ _ _=>trivial)
        obtain⟨W9,hW9⟩:∃W9,((w8.setCell ⟨w6.heap.size,0,none⟩ (.string (aa d.2.1))).setCell ⟨w6.heap.size,1,none⟩ (.slice A8 (opsL d.2.2.2.2).length c8))=W9:=⟨_,rfl⟩
        rw[hW9] at G1 G2 G3 ⊢
        clear hW9
        have H9:=zz (K6.out.after G1.out)
        clear i0 i1 if0 if1 HI8
        obtain⟨b9,DR⟩:∃b,w6.heap.size=b:=⟨_,rfl⟩
        have HB9:Hid (w6.heap.size≤b9):=zz (Nat.le_of_eq DR)
        rw[DR] at G2 ⊢
        clear DR)
      |(have G1:Hid (Below w6.heap.size w6 (w8.alloc (.cells #[.string (aa d.2.1),.slice A8 (opsL d.2.2.2.2).length c8] 24))):=zz (Xh.out.alloc Xh.out.size _)
        have G2:Hid (Bk (w8.alloc (.cells #[.string (aa d.2.1),.slice A8 (opsL d.2.2.2.2).length c8] 24)) w8.heap.size 24 [.string (aa d.2.1),.slice A8 (opsL d.2.2.2.2).length c8]):=zz (Bk.new w8 24 [.string (aa d.2.1),.slice A8 (opsL d.2.2.2.2).length c8])
        have G3:Hid (Rd (w8.alloc (.cells #[.string (aa d.2.1),.slice A8 (opsL d.2.2.2.2).length c8] 24)) (fun _=>True) A8 (bE (mr (mP d) (oW d) (opsL d.2.2.2.2) dv nv))):=zz (KC.out.after ((zo _ _).alloc (zu _) _))
        generalize (w8.alloc (.cells #[.string (aa d.2.1),.slice A8 (opsL d.2.2.2.2).length c8] 24))=W9 at G1 G2 G3 ⊢
        have H9:=zz (K6.out.after G1.out)
        have HB9:Hid (w6.heap.size≤w8.heap.size):=zz Xh.out.size
        generalize w8.heap.size=b9 at G2 HB9 ⊢)
     clear hn1 hn2 HSZ H7 K7 BA BB H8 KC Xh
     have e1:W9.cell? ⟨bx,1,none⟩=some (.int .i64 (a1:Int)):=H9.out.bk.cell 1 rfl
     have e2:W9.cell? ⟨b9,0,none⟩=some (.string (aa d.2.1)):=G2.out.cell 0 rfl
     have e3:W9.cell? ⟨b9,1,none⟩=some (.slice A8 (opsL d.2.2.2.2).length c8):=G2.out.cell 1 rfl
     have e4:W9.cell? ⟨b7,5,none⟩=some (.bool d.2.2.2.1):=H9.out.jf.cell 5 rfl
     have HD9:=zz (H9.out.after (aM (zo W9.heap.size W9)))
     have CRx:=zz (CR.out a1 a1 _ _ _ _ _ _ _ _ _ W9.drew (HD9.out.below HB0.out.1 HB0.out.2) HD9.out.bk HA1.out.1 HA1.out.2)
     have D9:=zz (G2.out.drew)
     clear CR
     have hq1:bx≠rb:=Ne.symm HBX.out
     have hq2:b9≠rb:=Nat.ne_of_gt (zq K6.out.res.lt HB9.out)
     have hq3:b7≠rb:=K6.out.amU
     refine wp_region_held_drew (S:=(fun w'=>w'.cell? ⟨bx,1,none⟩=some (.int .i64 (a1:Int))∧w'.cell? ⟨b9,0,none⟩=some (.string (aa d.2.1))∧w'.cell? ⟨b9,1,none⟩=some (.slice A8 (opsL d.2.2.2.2).length c8)∧w'.cell? ⟨b7,5,none⟩=some (.bool d.2.2.2.1))) (by kernel_rfl) ⟨HD9.out.bk.cell 1 rfl,D9.out.cell 0 rfl,D9.out.cell 1 rfl,HD9.out.jf.cell 5 rfl⟩ (fun hHeld=>?_)
     refine wpAnyH_take (i:=0) (oi:=_) (v:=?_) rfl (by kernel_rfl) (by kernel_rfl) (by kernel_rfl) (fun _ _ _ h=>h) (Or.inl ⟨by rfl,?_⟩) (by assumption) ?_
     rotate_left
     ·(intro w hSw;(try dsimp only at hSw);go_simp) <;> with_reducible rfl
     try simp only[Act.put,List.setIfInBounds_toArray]
     refine wpAnyH_take (i:=1) (oi:=_) (v:=?_) rfl (by kernel_rfl) (by kernel_rfl) (by kernel_rfl) (fun _ _ _ h=>h) (Or.inl ⟨by rfl,?_⟩) (by assumption) ?_
     rotate_left
     ·(intro w hSw;(try dsimp only at hSw);go_simp) <;> with_reducible rfl
     try simp only[Act.put]
     refine wpAnyH_take (i:=2) (oi:=_) (v:=?_) rfl (by kernel_rfl) (by kernel_rfl) (by kernel_rfl) (fun _ _ _ h=>h) (Or.inl ⟨by rfl,?_⟩) (by assumption) ?_
     rotate_left
     ·(intro w hSw;(try dsimp only at hSw);go_simp) <;> with_reducible rfl
     try simp only[Act.put]
     refine wpAnyH_take (i:=3) (oi:=_) (v:=?_) rfl (by kernel_rfl) (by kernel_rfl) (by kernel_rfl) (fun _ _ _ h=>h) (Or.inl ⟨by rfl,?_⟩) (by assumption) ?_
     rotate_left
     ·(intro w hSw;(try dsimp only at hSw);go_simp) <;> with_reducible rfl
     try simp only[Act.put]
     refine wpAnyH_take (i:=4) (oi:=_) (v:=?_) rfl (by kernel_rfl) (by kernel_rfl) (by kernel_rfl) (fun _ _ _ h=>h) (Or.inl ⟨by rfl,?_⟩) (by assumption) ?_
     rotate_left
     ·(intro w hSw;(try dsimp only at hSw);go_simp) <;> with_reducible rfl
     try simp only[Act.put]
     refine wpAnyH_take (i:=5) (oi:=_) (v:=?_) rfl (by kernel_rfl) (by kernel_rfl) (by kernel_rfl) (fun _ _ _ h=>h) (Or.inl ⟨by rfl,?_⟩) (by assumption) ?_
     rotate_left
     ·(intro w hSw;(try dsimp only at hSw);go_simp) <;> with_reducible rfl
     try simp only[Act.put]
     refine wpAnyH_take (i:=6) (oi:=_) (v:=?_) rfl (by kernel_rfl) (by kernel_rfl) (by kernel_rfl) (fun _ _ _ h=>h) (Or.inl ⟨by rfl,?_⟩) (by assumption) ?_
     rotate_left
     ·(intro w hSw;(try dsimp only at hSw);go_simp) <;> with_reducible rfl
     try simp only[Act.put]
     refine wpAnyH_take (i:=7) (oi:=_) (v:=?_) rfl (by kernel_rfl) (by kernel_rfl) (by kernel_rfl) (fun _ _ _ h=>h) (Or.inl ⟨by rfl,?_⟩) (by assumption) ?_
     rotate_left
     ·(intro w hSw;(try dsimp only at hSw);go_simp) <;> with_reducible rfl
     try simp only[Act.put]
     refine wpAnyH_take (i:=9) (oi:=_) (v:=?_) rfl (by kernel_rfl) (by kernel_rfl) (by kernel_rfl) (fun _ _ _ h=>h) (Or.inl ⟨by rfl,?_⟩) (by assumption) ?_
     rotate_left
     ·(intro w hSw;(try dsimp only at hSw);go_simp) <;> with_reducible rfl
     try simp only[Act.put]
     refine wpAnyH_take (i:=10) (oi:=_) (v:=?_) rfl (by kernel_rfl) (by kernel_rfl) (by kernel_rfl) (fun _ _ _ h=>h) (Or.inl ⟨by rfl,?_⟩) (by assumption) ?_
     rotate_left
     ·(intro w hSw;(try dsimp only at hSw);go_simp) <;> with_reducible rfl
     try simp only[Act.put]
     refine wpAnyH_take (i:=11) (oi:=_) (v:=?_) rfl (by kernel_rfl) (by kernel_rfl) (by kernel_rfl) (fun _ _ _ h=>h) (Or.inl ⟨by rfl,?_⟩) (by assumption) ?_
     rotate_left
     ·(intro w hSw;(try dsimp only at hSw);go_simp) <;> with_reducible rfl
     try simp only[Act.put]
     refine wpAnyH_ready (rs:=[8]) (by kernel_rfl) (by simp) ?_
     refine AllReadyH.cons (o:={ dst:=some 97,op:=.call { callee:=.value (.func 51),args:=#[.tmp 91,.tmp 96],argTypes:=#[101,3]},type:=25,pos:= "decode.go:84",after:=#[{ on:=2,ground:=.data},{ on:=7,ground:=.data}],guard:=none}) rfl (fun K hK=>?_) AllReadyH.nil
     go_simp
     go_at_call 51
     refine CRx.out.mono ?_
     rintro e w10 ⟨A10,c10,rfl,ate,xM⟩
     have H10:=zz (HD9.out.after xM)
     have ayB:=zz ate
     have aup:=zz xM
     refine hK.out _ _ ⟨H10.out.bk.cell 1 rfl,(D9.out.after xM).cell 0 rfl,(D9.out.after xM).cell 1 rfl,H10.out.jf.cell 5 rfl⟩ (fun iI=>?_)
     clear hK K hHeld ate xM
     try simp only[Act.put,List.setIfInBounds_toArray,List.set_cons_zero,List.set_cons_succ]
     refine wpAnyH_take (i:=12) (oi:={ dst:=some 101,op:=.build 35 #[(0,.const (.int .i64 1)),(1,.tmp 97),(2,.tmp 98),(3,.tmp 100)],type:=35,pos:= "decode.go:84",after:=#[{ on:=8,ground:=.data},{ on:=9,ground:=.data},{ on:=11,ground:=.data}],guard:=none}) (v:=?_) rfl (by kernel_rfl) (by kernel_rfl) (by kernel_rfl) (fun _ _ _ h=>h) (Or.inl ⟨by rfl,?_⟩) (by assumption) ?_
     rotate_left
     ·(intro w hSw;(try dsimp only at hSw);go_simp) <;> with_reducible rfl
     try simp only[Act.put,List.setIfInBounds_toArray,List.set_cons_zero,List.set_cons_succ]
     refine wpAnyH_ready (rs:=[13]) (by kernel_rfl) (by simp) ?_
     refine AllReadyH.cons (o:={ dst:=none,op:=.store 35 (.tmp 2) (.tmp 101),type:=0,pos:= "decode.go:84",after:=#[{ on:=12,ground:=.data},{ on:=8,ground:=.chain},{ on:=0,ground:=.phase},{ on:=1,ground:=.phase},{ on:=2,ground:=.phase},{ on:=3,ground:=.phase},{ on:=4,ground:=.phase},{ on:=5,ground:=.phase},{ on:=6,ground:=.phase},{ on:=7,ground:=.phase},{ on:=8,ground:=.phase},{ on:=9,ground:=.phase},{ on:=10,ground:=.phase},{ on:=11,ground:=.phase},{ on:=12,ground:=.phase}],guard:=none}) rfl (fun K hK=>?_) AllReadyH.nil
     refine oZ (o:=_) rfl 35 (.tmp 2) (.tmp 101) rfl rb 0 [.int .i64 1,.slice A10 a1 c10,.string (aa d.2.1),.slice A8 (opsL d.2.2.2.2).length c8,.bool d.2.2.2.1] rfl rfl 35 _ H10.out.res rfl (by simp) (by simp[Value.oneCell']) ?_
     intro w11 Vb axL
     have aBE:=zz Vb
     have ahL:=zz axL
     have hcell:∀b j (u:Value),b≠rb→w10.cell? ⟨b,j,none⟩=some u→w11.cell? ⟨b,j,none⟩=some u:=fun b j u hb hc=>by
      rw[← hc]
      exact World.cell?_of_block (ahL.out.block b (lt_of_cell hc) fun e=>hb (zx e))
     refine hK.out _ _ ⟨hcell _ _ _ hq1 (H10.out.bk.cell 1 rfl),hcell _ _ _ hq2 iI.2.1,hcell _ _ _ hq2 iI.2.2.1,hcell _ _ _ hq3 (H10.out.jf.cell 5 rfl)⟩ (fun pY=>?_)
     clear hK K iI pY hcell
     refine wpAnyH_done (by kernel_rfl) ?_ _
     try simp only[Act.put]
     have y0:=Vb.cell 0 rfl
     have y1:=Vb.cell 1 rfl
     have y2:=Vb.cell 2 rfl
     have y3:=Vb.cell 3 rfl
     have y4:=Vb.cell 4 rfl
     go_wp2
     refine bodyPost_ret (v:=.agg #[.int .i64 1,.slice A10 a1 c10,.string (aa d.2.1),.slice A8 (opsL d.2.2.2.2).length c8,.bool d.2.2.2.1]) (by simp[results,Tryz.results52,go_sem,y0,y1,y2,y3,y4]) rfl ⟨A10,c10,A8,c8,rfl,?_,?_,?_⟩
     ·have hlt:=H9.out.res.lt
      have hsz:=H9.out.gr.size
      refine ((Rd.sI (p:=fun i=>i≠rb∧w.heap.size≤i) ayB.out fun i h1 _=>?_).keep fun i h1 h2=>ahL.out.block i h1 fun e=>h2.1 (zx e)).mono fun _ _ h=>h.2
      have:W9.heap.size≤i:=h1
      omega
     ·refine (((MW G3.out H9.out.res).after (aM (zo W9.heap.size W9))).after aup.out |>.keep fun i h1 h2=>ahL.out.block i h1 fun e=>h2 (zx e)).mono fun _ _ _=>trivial
     ·exact Ve H10.out.gr ahL.out (Nat.le_of_eq hrb)
end Go.Proofs.YtceaodnohnekkaaGreatDoor
