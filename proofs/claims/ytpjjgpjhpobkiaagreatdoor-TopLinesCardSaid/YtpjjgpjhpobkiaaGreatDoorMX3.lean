/- Parts of the proof of TopLines. -/
import Derived.Test.YtpjjgpjhpobkiaaGreatDoorMX2
import Derived.BigQuiet
import Derived.Deep.DeepCutAuto
import Derived.RangeFuncNested
import Derived.RangeFuncBound
import Derived.Shelf.Strings.OnBuilder
import Derived.Shelf.Small.Strs
import Derived.Shelf.Small.Wraps
import Derived.Shelf.Strings.Count
import Derived.Shelf.Strconv.Itoa3
set_option maxHeartbeats 8000000
set_option maxRecDepth 100000
namespace Go.Proofs.YtpjjgpjhpobkiaaGreatDoor
section
open Go.RowKit Ex
abbrev dW (A:Option Addr)(N c:Nat)(at':Nat)(pv e0 e1 e2 e3 e4 e5:Value)(d n:Int):List Value:=[.slice A N c,.int .i64 (at':Int),pv,e0,e1,e2,e3,e4,e5,.int .i64 d,.int .i64 n]
theorem Rd.v {w:World}{p:Nat→Prop}{A:Option Addr}{V:List Value}(h:Rd w p A V){k:Nat}{u:Value}(hk:V[k]? =some u):∃q off,A=some ⟨q,off,none⟩∧p q∧w.cell? ⟨q,off+k,none⟩=some u:=by
 have hne:V≠[]:=fun e=>by rw[e] at hk;simp at hk
 obtain⟨q,off,h1,h2,h3⟩:=h.ex hne;exact⟨q,off,h1,h2,h3 k u hk⟩
theorem BH {w W:World}{row:Option Nat}(h:w.grownBy W row)(m:Nat):w.grownBy (W.drewN m) row:=⟨h.os,h.tape,h.output,h.size,h.block⟩
theorem qi (bx:Nat)(A:Option Addr)(N c at':Nat)(pv e0 e1 e2 e3 e4 e5:Value)(d n:Int)(V:List Value)(z:Int)(w:World)(p:Nat→Prop)(hb:Bk w bx 510 (dW A N c at' pv e0 e1 e2 e3 e4 e5 d n))(hr:Rd w p A V)(hp:∀i,p i→i≠bx)(hz:V[at']? =some (.int .u8 z))(hN:V.length=N)(hm:(N:Int)≤1000):
 Calls Tryz.prog 433 #[.pointer (some ⟨bx,0,none⟩)] w fun e w'=>e= .returned (.int .u8 z)∧Bk w' bx 510 (dW A N c (at'+1) pv e0 e1 e2 e3 e4 e5 d n)∧w.grownBy w' (some bx):=by
 obtain⟨q,off,rfl,hq,hc⟩:=hr.v hz;have hat:at' < N:=by rw[← hN];exact (zf.1 hz).1
 have hat':¬((N:Int)≤(at':Int)):=zy;have hd:decide ((N:Int)≤(at':Int))=false:=zN hat';have x0:=hb.cell 0 rfl;have x1:=hb.cell 1 rfl;have f1:=hb.frozen 1;have hne:q≠bx:=hp q hq
 have K1:Hid (∀m,Bk ((w.drewN m).setCell ⟨bx,1,none⟩ (.int .i64 ((at':Int)+1))) bx 510 (dW (some ⟨q,off,none⟩) N c (at'+1) pv e0 e1 e2 e3 e4 e5 d n)):=fun m=>by
  have hb':Bk (w.drewN m) bx 510 (dW (some ⟨q,off,none⟩) N c at' pv e0 e1 e2 e3 e4 e5 d n):=hb;have:=hb'.set 1 (.int .i64 ((at':Int)+1));exact this
 have HG:Hid (∀m,w.grownBy ((w.drewN m).setCell ⟨bx,1,none⟩ (.int .i64 ((at':Int)+1))) (some bx)):=fun m=>by
  refine⟨rfl,rfl,rfl,zw,fun k hk hne=>(zG (w.drewN m) ⟨bx,1,none⟩ _ k ?_).trans rfl⟩
  exact fun e=>hne (by rw[e])
 have Y2:Hid (∀m,((w.drewN m).setCell ⟨bx,1,none⟩ (.int .i64 ((at':Int)+1))).cell? ⟨q,off+at',none⟩=some (.int .u8 z)):=fun m=>by
  rw[yz (w:=w) ((zG (w.drewN m) ⟨bx,1,none⟩ _ q hne).trans rfl)];exact hc
 clear hr hp hz hN hb hq hc;go_enter Tryz.func433,Tryz.ntmps433;go_wp2;go_quiet (fail)
 all_goals
  go_wp2;have z0:=(K1.out nq).cell 0 rfl;have z1:((w.drewN nq).setCell ⟨bx,1,none⟩ (.int .i64 ((at':Int)+1))).cell? ⟨bx,1,none⟩=some (.int .i64 ((at':Int)+1)):=(K1.out nq).cell 1 rfl;have z2:=Y2.out nq;have HK:=zo (K1.out nq);have HH:=zo (HG.out nq);generalize ((w.drewN nq).setCell ⟨bx,1,none⟩ (.int .i64 ((at':Int)+1)))=W1 at z0 z1 z2 HK HH ⊢;have e1:(at':Int)+1 - 1=(at':Int):=zy;go_quiet (fail)
  all_goals
   go_wp2;go_ret;exact⟨rfl,HK.out,BH HH.out _⟩
theorem apJ (A:Option Addr)(l c m:Nat)(w:World)(h:m≤c):(Instr.sliceAt 22 (.slice A l c) none (some (.int .i64 (m:Int))) none).run Tryz.prog w= .ok (.slice A m c) w:=by
 have hu:Tryz.prog.underlying 22=some (.slice (Tryz.prog.elem 22)):=by kernel_rfl
 have hs:(sizeOf (Tryz.prog.elem 22)).run Tryz.prog w= .ok 1 w:=by kernel_rfl
 rw[run_sliceAt_slice w _ _ _ _ _ hu,run_slice_h w _ A l c hu .i64 (m:Int) zy zy,hs];simp only[Result.andThen_ok,sliced,Int.toNat_natCast,Nat.sub_zero,Nat.zero_mul]
 congr 2
 split
 ·rfl
 ·cases A with
  |none=>rfl
  |some a=>simp[Addr.add]
theorem Q3 (q off n c:Nat)(V:List Value)(w:World)(p:Nat→Prop)(hV:V.length=n)(h1:∀u∈V,u.oneCell'=true)(hn:1≤n)(hm:(n:Int)≤1000)(h:Rd w p (some ⟨q,off,none⟩) V):
 Calls Tryz.prog 430 #[.slice (some ⟨q,off,none⟩) n c] w fun e w'=>∃A' c',e= .returned (.slice A' n c')∧w'.ownsRow w.heap.size 5 1 (.slice A' n c') n V∧Below w.heap.size w w':=by
 have hown:(w.alloc (.cells #[] 5)).ownsRow w.heap.size 5 1 (.slice (some ⟨w.heap.size,0,none⟩) 0 0) 0 []:=World.ownsRow_made w #[] 0 (zn _) (by simp[maxLen]) rfl
 have hr:=h.after ((zh w.heap.size w).alloc (zn _) (.cells #[] 5));have HB:Hid (Below w.heap.size w (w.alloc (.cells #[] 5))):=(zh _ _).alloc (zn _) _;have hV1:V.length=n * 1:=zy;have hnil:=fun w n=>Lib.run_eql_slice_nil (P:=Tryz.prog) w 22 5 (some ⟨q,off,none⟩) n c 0 0 Tryz.underlying22
 go_enter Tryz.func430,Tryz.ntmps430
 go_wp2_with (at_builtin;refine bu iU rfl (.tmp 5) (.tmp 6) rfl w.heap.size _ 0 [] p (some ⟨q,off,none⟩) n c V rfl rfl hown hV1 hr h1 (by simp only[maxLen];omega) zy zw ?_;intro v' w1 hown2 hg1 _ _)
 go_ret;rw[yD,xD] at hown2;obtain⟨A',c',rfl,_,_⟩:=bg hown2
 exact⟨A',c',rfl,hown2,HB.grown hg1 zw fun j ej=>by
  have e:w.heap.size=j:=zq ej;omega⟩
theorem Jp (bx:Nat)(A:Option Addr)(N c k at':Nat)(pv e0 e1 e2 e3 e4 e5:Value)(d n:Int)(V:List Value)(w:World)(p:Nat→Prop)(hb:Bk w bx 510 (dW A N c at' pv e0 e1 e2 e3 e4 e5 d n))(hr:Rd w p A V)(h1:∀u∈V,u.oneCell'=true)(hN:V.length=N)(hm:(N:Int)≤1000)(hk:1≤k)(hkN:k≤N)(hc:N≤c):
 Calls Tryz.prog 408 #[.pointer (some ⟨bx,0,none⟩),.int .i64 (k:Int)] w fun e w'=>∃A' c',e= .returned (.slice A' k c')∧w'.ownsRow w.heap.size 5 1 (.slice A' k c') k (V.take k)∧Below w.heap.size w w':=by
 obtain⟨q,off,rfl,hq,_⟩:=hr.v (k:=0) (zg zy);have C:=zo (Q3 q off k c (V.take k) w p (by rw[zJ];omega) (fun u hu=>h1 u (vO hu)) hk zy (hr.take k))
 have hs:=fun W=>apJ (some ⟨q,off,none⟩) N c k W zy
 have x0:=hb.cell 0 rfl;clear hr h1 hq hb;go_enter Tryz.func408,Tryz.ntmps408
 go_wp2_with (go_at_call 430;refine C.mono ?_;rintro e w1 ⟨A',c',rfl,ho,hb⟩)
 go_ret;exact⟨A',c',rfl,ho,hb⟩
def qo (z:Int):Int:=if 128≤z then z - 256 else z
theorem ag5:∀n:Fin 256,IntKind.i8.wrap (n.val:Int)=qo (n.val:Int):=by decide+kernel
theorem ac6 {z:Int}(h0:0≤z)(h1:z < 256):IntKind.i8.wrap z=qo z:=by
 have:=ag5 ⟨z.toNat,zy⟩
 simpa only[Int.toNat_of_nonneg h0] using this
theorem Bq {z:Int}(h0:0≤z)(h1:z < 256)(w:World):Calls Tryz.prog 447 #[.int .u8 z] w fun e w'=>e= .returned (.int .i64 (qo z))∧w'=w:=by
 have h:=ac6 h0 h1
 have hr: -128≤qo z∧qo z≤127:=by
  unfold qo;split<;>omega
 obtain⟨h2,h3⟩:=hr;go_enter Tryz.func447,Tryz.ntmps447;go_wp2;go_ret;exact⟨rfl,rfl⟩
def Ext (V:List Value):List Nat→Nat→Int→Int→Nat→Int→Int→Prop
 |[],a,d,n,a',d',n'=>a=a'∧d=d'∧n=n'
 |c::l,a,d,n,a',d',n'=>
  (c=100∧∃z,V[a]? =some (.int .u8 z)∧0≤z∧z < 256∧Ext V l (a+1) (qo z) n a' d' n')∨
  (c=101∧∃z,V[a]? =some (.int .u8 z)∧0≤z∧z < 256∧Ext V l (a+1) d (qo z) a' d' n')∨
  (c=110∧∃z,V[a]? =some (.int .u8 z)∧0≤z∧z < 256∧Ext V l (a+1) d z a' d' n')∨
  (c=119∧∃z y,V[a]? =some (.int .u8 z)∧0≤z∧z < 256∧V[a+1]? =some (.int .u8 y)∧0≤y∧y < 256∧Ext V l (a+2) d (z+y * 256) a' d' n')
structure qQ (w W:World)(bx k:Nat)(s:ByteArray)(pos:Nat)(A:Option Addr)(N c at':Nat)(pv e0 e1 e2 e3 e4 e5:Value)(d n:Int)(V:List Value):Prop where
 bk:Bk W bx 510 (dW A N c at' pv e0 e1 e2 e3 e4 e5 d n)
 it:W.heap[k]? =some (.stringIter s pos)
 gr:w.grownBy W (some bx)
 row:Rd W (fun i=>i≠bx∧i < w.heap.size) A V
section
variable {w W W':World} {bx k:Nat} {s:ByteArray} {pos:Nat} {A:Option Addr} {N c at':Nat} {pv e0 e1 e2 e3 e4 e5:Value} {d n:Int} {V:List Value}
theorem iG {row:Option Nat}{X Y Z:World}(h:X.grownBy Y row)(h':Y.grownBy Z row):X.grownBy Z row:=⟨h'.os.trans h.os,h'.tape.trans h.tape,h'.output.trans h.output,zV h.size h'.size,fun k hk hne=>(h'.block k (zZ hk h.size) hne).trans (h.block k hk hne)⟩
theorem qQ.take (h:qQ w W bx k s pos A N c at' pv e0 e1 e2 e3 e4 e5 d n V){at2:Nat}{d' n':Int}(hb:Bk W' bx 510 (dW A N c at2 pv e0 e1 e2 e3 e4 e5 d' n'))(hg:W.grownBy W' (some bx)):qQ w W' bx k s pos A N c at2 pv e0 e1 e2 e3 e4 e5 d' n' V:=by
 refine⟨hb,?_,iG h.gr hg,h.row.grown hg fun i _ hi e=>hi.1 (zq e)⟩
 have hk:k < W.heap.size:=(zT.1 h.it).1;refine (hg.block k hk fun e=>?_).trans h.it
 obtain rfl:=zq e;have h1:=h.it;have h2:W.heap[k]? =some (.cells _ 510 (0,0)):=h.bk;rw[h2] at h1
 cases h1
theorem lV (W:World)(bx j:Nat)(u:Value):W.grownBy (W.setCell ⟨bx,j,none⟩ u) (some bx):=⟨rfl,rfl,rfl,zw,fun k _ hne=>zG W ⟨bx,j,none⟩ u k fun e=>hne (by rw[e])⟩
theorem qQ.alQ (h:qQ w W bx k s pos A N c at' pv e0 e1 e2 e3 e4 e5 d n V)(z:Int):qQ w (W.setCell ⟨bx,9,none⟩ (.int .i64 z)) bx k s pos A N c at' pv e0 e1 e2 e3 e4 e5 z n V:=h.take (h.bk.set 9 (.int .i64 z)) (lV W bx 9 _)
theorem qQ.ahr (h:qQ w W bx k s pos A N c at' pv e0 e1 e2 e3 e4 e5 d n V)(z:Int):qQ w (W.setCell ⟨bx,10,none⟩ (.int .i64 z)) bx k s pos A N c at' pv e0 e1 e2 e3 e4 e5 d z V:=h.take (h.bk.set 10 (.int .i64 z)) (lV W bx 10 _)
theorem qQ.next (h:qQ w W bx k s pos A N c at' pv e0 e1 e2 e3 e4 e5 d n V)(hk:w.heap.size≤k)(pos':Nat):qQ w (W.iterAt k s pos') bx k s pos' A N c at' pv e0 e1 e2 e3 e4 e5 d n V:=by
 have hlt:k < W.heap.size:=(zT.1 h.it).1
 have hother:∀i,i≠k→(W.iterAt k s pos').heap[i]? =W.heap[i]?:=fun i hi=>by
  simp[World.iterAt,Array.getElem?_setIfInBounds_ne (Ne.symm hi)]
 have hbk:bx≠k:=fun e=>by
  subst e;have h1:=h.it;have h2:W.heap[bx]? =some (.cells _ 510 (0,0)):=h.bk;rw[h2] at h1
  cases h1
 refine⟨(hother bx hbk).trans h.bk,by simp[World.iterAt,hlt],⟨h.gr.os,h.gr.tape,h.gr.output,by have:=h.gr.size;simpa [World.iterAt] using this,fun i hi hne=>(hother i zy).trans (h.gr.block i hi hne)⟩,h.row.keep fun i _ hi=>hother i zy⟩
end
theorem E8 {ex:List Nat}{j:Nat}(hj:j < ex.length)(hx:∀x∈ex,x < 128):∃h:j < (ag ex).size,(((ag ex)[j]'h).toNat:Int)=(ex[j]:Nat)∧((ag ex)[j]'h).toNat < 128:=by
 have h:j < (ag ex).size:=by rw[aC];exact hj
 refine⟨h,?_⟩
 have e:(ag ex)[j]'h=UInt8.ofNat ex[j]:=by
  show (ag ex).data[j]'h=_;simp[ag]
 have h1:=hx _ (vo hj)
 have e2:(UInt8.ofNat ex[j]).toNat=ex[j]:=by
  rw[wF];omega
 rw[e,e2];exact⟨rfl,h1⟩
theorem Ig (ex:List Nat)(hex:∀x∈ex,x < 128)(bx:Nat)(A:Option Addr)(N c at':Nat)(pv e0 e1 e2 e3 e4 e5:Value)(d n:Int)(V:List Value)(a1:Nat)(d1 n1:Int)(w:World)(p:Nat→Prop)(hb:Bk w bx 510 (dW A N c at' pv e0 e1 e2 e3 e4 e5 d n))(hr:Rd w p A V)(hp:∀i,p i→i≠bx)(hN:V.length=N)(hm:(N:Int)≤1000)(hE:Ext V ex at' d n a1 d1 n1):
 Calls Tryz.prog 432 #[.pointer (some ⟨bx,0,none⟩),.string (ag ex)] w fun e w'=>e= .returned (.tuple #[])∧Bk w' bx 510 (dW A N c a1 pv e0 e1 e2 e3 e4 e5 d1 n1)∧w.grownBy w' (some bx):=by
 have CT:Hid (∀(a:Nat) (d n z:Int) W,Bk W bx 510 (dW A N c a pv e0 e1 e2 e3 e4 e5 d n)→Rd W (fun i=>i≠bx∧i < w.heap.size) A V→V[a]? =some (.int .u8 z)→Calls Tryz.prog 433 #[.pointer (some ⟨bx,0,none⟩)] W fun e w'=>e= .returned (.int .u8 z)∧Bk w' bx 510 (dW A N c (a+1) pv e0 e1 e2 e3 e4 e5 d n)∧W.grownBy w' (some bx)):=fun a d n z W h1 h2 h3=>qi bx A N c a pv e0 e1 e2 e3 e4 e5 d n V z W _ h1 h2 (fun i hi=>hi.1) h3 hN hm
 have CS:Hid (∀z W,0≤z→z < 256→Calls Tryz.prog 447 #[.int .u8 z] W fun e w'=>e= .returned (.int .i64 (qo z))∧w'=W):=fun z W h0 h1=>Bq h0 h1 W
 have HE:=zo hE;have HX:=zo hex;have HB:=zo hb;have HR:=zo (show Rd w (fun i=>i≠bx∧i < w.heap.size) A V from hr.mono fun i hi hpi=>⟨hp i hpi,hi⟩)
 clear hr hp hN hb hE hex;go_enter Tryz.func432,Tryz.ntmps432;go_wp2;have hk0:=World.iter_heap w (ag ex) 0
 have H0:Hid (qQ w (w.iter (ag ex) 0) bx w.heap.size (ag ex) 0 A N c at' pv e0 e1 e2 e3 e4 e5 d n V):=
  ⟨HB.alloc _,hk0,wG w _ _,HR.after ((zh _ _).alloc (zn _) _)⟩
 generalize w.iter (ag ex) 0=W0 at H0 ⊢;clear hk0
 go_loopw [5] (fun _ wr=>∃(j a:Nat) (d n:Int),j≤ex.length∧Hid (Ext V (ex.drop j) a d n a1 d1 n1)∧Hid (qQ w wr bx w.heap.size (ag ex) j A N c a pv e0 e1 e2 e3 e4 e5 d n V)) (fun _ wr=>ex.length - wr.iterPos w.heap.size)
 case atStart=>exact⟨0,at',d,n,zF _,HE.out,H0.out⟩
 case round=>
  obtain⟨j,a,d,n,hj,he,hw⟩:=hrel;clear H0 HE HB HR;have hmu:wr.iterPos w.heap.size=j:=by simp[World.iterPos,hw.it]
  by_cases hlt:j < ex.length
  ·obtain⟨hs,hg,h128⟩:=E8 hlt HX.out
   have hnext:∀ty,(Instr.next (.pointer (some ⟨w.heap.size,0,none⟩)) true ty).run Tryz.prog wr= .ok (.tuple #[.bool true,.int .i64 j,.int .i32 (ex[j]:Nat)]) (wr.iterAt w.heap.size (ag ex) (j+1)):=fun ty=>by
    rw[Lib.run_next_ascii_at wr w.heap.size (ag ex) j ty hw.it hs h128,hg]
   have H1:=zo (hw.next (zn _) (j+1));have hd:ex.drop j=ex[j]::ex.drop (j+1):=zK hlt;have kW:=he.out;rw[hd] at kW;clear hd hs hg h128 he hw;generalize ex[j]=l at hnext kW;generalize wr.iterAt w.heap.size (ag ex) (j+1)=W1 at hnext H1;rcases kW with⟨rfl,z,hz,h0,h1,hE⟩|⟨rfl,z,hz,h0,h1,hE⟩|⟨rfl,z,hz,h0,h1,hE⟩|⟨rfl,z,y,hz,h0,h1,hy,h2,h3,hE⟩
   ·have HE:=zo hE;have CTz:=zo (CT.out a d n z W1 H1.bk H1.row hz);have CSz:=zo (fun W=>CS.out z W h0 h1)
    clear hE hz
    go_wp2_with (first
     |(go_at_call 433;refine CTz.mono ?_;rintro e w2 ⟨rfl,hb2,hg2⟩;have H2:=zo (H1.take hb2 hg2);have x9:=hb2.cell 9 rfl;have f9:=hb2.frozen 9;clear hb2 hg2)
     |(go_at_call 447;refine (CSz.out _).mono ?_;rintro e w3 ⟨rfl,rfl⟩))
    have H3:=zo (H2.alQ (qo z));have J2:(w3.setCell ⟨bx,9,none⟩ (.int .i64 (qo z))).iterPos w.heap.size=j+1:=by simp[World.iterPos,H3.it]
    go_roundw
    case rel=>exact⟨j+1,_,_,_,hlt,HE.out,H3.out⟩
    case measure=>rw[hmu,J2];omega
   ·have HE:=zo hE;have CTz:=zo (CT.out a d n z W1 H1.bk H1.row hz);have CSz:=zo (fun W=>CS.out z W h0 h1)
    clear hE hz
    go_wp2_with (first
     |(go_at_call 433;refine CTz.mono ?_;rintro e w2 ⟨rfl,hb2,hg2⟩;have H2:=zo (H1.take hb2 hg2);have x10:=hb2.cell 10 rfl;have f10:=hb2.frozen 10;clear hb2 hg2)
     |(go_at_call 447;refine (CSz.out _).mono ?_;rintro e w3 ⟨rfl,rfl⟩))
    have H3:=zo (H2.ahr (qo z));have J2:(w3.setCell ⟨bx,10,none⟩ (.int .i64 (qo z))).iterPos w.heap.size=j+1:=by simp[World.iterPos,H3.it]
    go_roundw
    case rel=>exact⟨j+1,_,_,_,hlt,HE.out,H3.out⟩
    case measure=>rw[hmu,J2];omega
   ·have HE:=zo hE;have CTz:=zo (CT.out a d n z W1 H1.bk H1.row hz);clear hE hz
    go_wp2_with (go_at_call 433;refine CTz.mono ?_;rintro e w2 ⟨rfl,hb2,hg2⟩;have H2:=zo (H1.take hb2 hg2);have x10:=hb2.cell 10 rfl;have f10:=hb2.frozen 10;clear hb2 hg2)
    have H3:=zo (H2.ahr z);have J2:(w2.setCell ⟨bx,10,none⟩ (.int .i64 z)).iterPos w.heap.size=j+1:=by simp[World.iterPos,H3.it]
    go_roundw
    case rel=>exact⟨j+1,_,_,_,hlt,HE.out,H3.out⟩
    case measure=>rw[hmu,J2];omega
   ·have HE:=zo hE;have CTz:=zo (CT.out a d n z W1 H1.bk H1.row hz);have CTy:=zo (fun W b r=>CT.out (a+1) d n y W b r hy)
    clear hE hz hy
    go_wp2_with (first
     |(go_at_call 433;refine (CTy.out _ H2.bk H2.row).mono ?_;rintro e w3 ⟨rfl,hb2,hg2⟩;have H3:=zo (H2.take hb2 hg2);have x10:=hb2.cell 10 rfl;have f10:=hb2.frozen 10;clear hb2 hg2)
     |(go_at_call 433;refine CTz.mono ?_;rintro e w2 ⟨rfl,hb2,hg2⟩;have H2:=zo (H1.take hb2 hg2);clear hb2 hg2))
    have H4:=zo (H3.ahr (z+y * 256));have J2:(w3.setCell ⟨bx,10,none⟩ (.int .i64 (z+y * 256))).iterPos w.heap.size=j+1:=by simp[World.iterPos,H4.it]
    go_roundw
    case rel=>exact⟨j+1,_,_,_,hlt,HE.out,H4.out⟩
    case measure=>rw[hmu,J2];omega
  ·have hnext:∀ty,(Instr.next (.pointer (some ⟨w.heap.size,0,none⟩)) true ty).run Tryz.prog wr= .ok (.tuple #[.bool false]) wr:=fun ty=>Lib.run_next_end_at wr w.heap.size (ag ex) j ty hw.it (by rw[aC];exact hlt)
   have kW:=he.out;rw[yL zy] at kW;obtain⟨rfl,rfl,rfl⟩:=kW;go_wp2;go_end0;exact⟨rfl,hw.bk,hw.gr⟩
abbrev DV:List PanicEntry:=[{ v:=.iface 511 (.agg #[]),recovered:=false}]
def Cg (w W:World)(bx:Nat)(A:Option Addr)(N c:Nat):Prop:=(∃(a:Nat) (pv e0 e1 e2 e3 e4 e5:Value) (d n:Int),Bk W bx 510 (dW A N c a pv e0 e1 e2 e3 e4 e5 d n))∧w.grownBy W (some bx)
theorem LU (bx:Nat)(A:Option Addr)(N c:Nat)(pv e0 e1 e2 e3 e4 e5:Value)(d n:Int)(w:World)(hb:Bk w bx 510 (dW A N c N pv e0 e1 e2 e3 e4 e5 d n)):
 Calls Tryz.prog 433 #[.pointer (some ⟨bx,0,none⟩)] w fun e w'=>e= .panicked DV∧Cg w w' bx A N c:=by
 have hd:decide ((N:Int)≤(N:Int))=true:=zC (Int.le_refl _);have x0:=hb.cell 0 rfl;have x1:=hb.cell 1 rfl;have HB:Hid (∀m,Cg w (w.drewN m) bx A N c):=fun m=>⟨⟨_,_,_,_,_,_,_,_,_,_,show Bk (w.drewN m) bx _ _ from hb⟩,BH ⟨rfl,rfl,rfl,zn _,fun _ _ _=>rfl⟩ m⟩
 clear hb;go_enter Tryz.func433,Tryz.ntmps433;go_wp2;go_quiet (fail)
 all_goals
  go_wp2;exact⟨rfl,rfl,HB.out _⟩
def Sht (V:List Value):List Nat→Nat→Prop
 |[],_=>False
 |x::l,a=>(V.length=a∧(x=100∨x=101∨x=110∨x=119))∨(x=119∧V.length=a+1∧∃z,V[a]? =some (.int .u8 z)∧0≤z∧z < 256)∨(x=100∧(∃z,V[a]? =some (.int .u8 z)∧0≤z∧z < 256)∧Sht V l (a+1))
theorem Cg.trans {w W W':World}{bx N c:Nat}{A:Option Addr}(h:Cg W W' bx A N c)(g:w.grownBy W (some bx)):Cg w W' bx A N c:=⟨h.1,iG g h.2⟩
theorem VW (ex:List Nat)(hex:∀x∈ex,x < 128)(bx:Nat)(A:Option Addr)(N c at':Nat)(pv e0 e1 e2 e3 e4 e5:Value)(d n:Int)(V:List Value)(w:World)(p:Nat→Prop)(hb:Bk w bx 510 (dW A N c at' pv e0 e1 e2 e3 e4 e5 d n))(hr:Rd w p A V)(hp:∀i,p i→i≠bx)(hN:V.length=N)(hm:(N:Int)≤1000)(hE:Sht V ex at'):
 Calls Tryz.prog 432 #[.pointer (some ⟨bx,0,none⟩),.string (ag ex)] w fun e w'=>e= .panicked DV∧Cg w w' bx A N c:=by
 have CT:Hid (∀(a:Nat) (d n z:Int) W,Bk W bx 510 (dW A N c a pv e0 e1 e2 e3 e4 e5 d n)→Rd W (fun i=>i≠bx∧i < w.heap.size) A V→V[a]? =some (.int .u8 z)→Calls Tryz.prog 433 #[.pointer (some ⟨bx,0,none⟩)] W fun e w'=>e= .returned (.int .u8 z)∧Bk w' bx 510 (dW A N c (a+1) pv e0 e1 e2 e3 e4 e5 d n)∧W.grownBy w' (some bx)):=fun a d n z W h1 h2 h3=>qi bx A N c a pv e0 e1 e2 e3 e4 e5 d n V z W _ h1 h2 (fun i hi=>hi.1) h3 hN hm
 have CN:Hid (∀(a:Nat) (d n:Int) W,V.length=a→Bk W bx 510 (dW A N c a pv e0 e1 e2 e3 e4 e5 d n)→Calls Tryz.prog 433 #[.pointer (some ⟨bx,0,none⟩)] W fun e w'=>e= .panicked DV∧Cg W w' bx A N c):=fun a d n W h1 h2=>by
  rw[← h1,hN] at h2;exact LU bx A N c pv e0 e1 e2 e3 e4 e5 d n W h2
 have CS:Hid (∀z W,0≤z→z < 256→Calls Tryz.prog 447 #[.int .u8 z] W fun e w'=>e= .returned (.int .i64 (qo z))∧w'=W):=fun z W h0 h1=>Bq h0 h1 W
 have HE:=zo hE;have HX:=zo hex;have HB:=zo hb;have HR:=zo (show Rd w (fun i=>i≠bx∧i < w.heap.size) A V from hr.mono fun i hi hpi=>⟨hp i hpi,hi⟩)
 clear hr hp hN hb hE hex;go_enter Tryz.func432,Tryz.ntmps432;go_wp2;have hk0:=World.iter_heap w (ag ex) 0
 have H0:Hid (qQ w (w.iter (ag ex) 0) bx w.heap.size (ag ex) 0 A N c at' pv e0 e1 e2 e3 e4 e5 d n V):=
  ⟨HB.alloc _,hk0,wG w _ _,HR.after ((zh _ _).alloc (zn _) _)⟩
 generalize w.iter (ag ex) 0=W0 at H0 ⊢;clear hk0
 go_loopw [5] (fun _ wr=>∃(j a:Nat) (d n:Int),j≤ex.length∧Hid (Sht V (ex.drop j) a)∧Hid (qQ w wr bx w.heap.size (ag ex) j A N c a pv e0 e1 e2 e3 e4 e5 d n V)) (fun _ wr=>ex.length - wr.iterPos w.heap.size)
 case atStart=>exact⟨0,at',d,n,zF _,HE.out,H0.out⟩
 case round=>
  obtain⟨j,a,d,n,hj,he,hw⟩:=hrel;clear H0 HE HB HR;have hmu:wr.iterPos w.heap.size=j:=by simp[World.iterPos,hw.it]
  have hlt:j < ex.length:=Nat.lt_of_not_le fun h=>by
   have:=he.out;rw[yL h] at this;exact this
  obtain⟨hs,hg,h128⟩:=E8 hlt HX.out
  have hnext:∀ty,(Instr.next (.pointer (some ⟨w.heap.size,0,none⟩)) true ty).run Tryz.prog wr= .ok (.tuple #[.bool true,.int .i64 j,.int .i32 (ex[j]:Nat)]) (wr.iterAt w.heap.size (ag ex) (j+1)):=fun ty=>by
   rw[Lib.run_next_ascii_at wr w.heap.size (ag ex) j ty hw.it hs h128,hg]
  have H1:=zo (hw.next (zn _) (j+1));have hd:ex.drop j=ex[j]::ex.drop (j+1):=zK hlt;have kW:=he.out;rw[hd] at kW;clear hd hs hg h128 he hw;generalize ex[j]=l at hnext kW;generalize wr.iterAt w.heap.size (ag ex) (j+1)=W1 at hnext H1;rcases kW with⟨hl,hx⟩|⟨rfl,hl,z,hz,h0,h1⟩|⟨rfl,⟨z,hz,h0,h1⟩,hE⟩
  ·have CNz:=zo (CN.out a d n W1 hl H1.bk);clear CN CT;rcases hx with rfl|rfl|rfl|rfl
   all_goals
    go_wp2_with (go_at_call 433;refine CNz.mono ?_;rintro e w2 ⟨rfl,hD⟩;have HD:=zo (hD.trans H1.gr);clear hD)
    exact⟨rfl,rfl,HD.out⟩
  ·have CTz:=zo (CT.out a d n z W1 H1.bk H1.row hz);have CNz:=zo (fun W h=>CN.out (a+1) d n W hl h)
   clear CN CT hz
   go_wp2_with (first
    |(go_at_call 433;refine (CNz.out _ H2.bk).mono ?_;rintro e w3 ⟨rfl,hD⟩;have HD:=zo (hD.trans H2.gr);clear hD)
    |(go_at_call 433;refine CTz.mono ?_;rintro e w2 ⟨rfl,hb2,hg2⟩;have H2:=zo (H1.take hb2 hg2);clear hb2 hg2))
   exact⟨rfl,rfl,HD.out⟩
  ·have HE:=zo hE;have CTz:=zo (CT.out a d n z W1 H1.bk H1.row hz);have CSz:=zo (fun W=>CS.out z W h0 h1)
   clear hE hz
   go_wp2_with (first
    |(go_at_call 433;refine CTz.mono ?_;rintro e w2 ⟨rfl,hb2,hg2⟩;have H2:=zo (H1.take hb2 hg2);have x9:=hb2.cell 9 rfl;have f9:=hb2.frozen 9;clear hb2 hg2)
    |(go_at_call 447;refine (CSz.out _).mono ?_;rintro e w3 ⟨rfl,rfl⟩))
   have H3:=zo (H2.alQ (qo z));have J2:(w3.setCell ⟨bx,9,none⟩ (.int .i64 (qo z))).iterPos w.heap.size=j+1:=by simp[World.iterPos,H3.it]
   go_roundw
   case rel=>exact⟨j+1,_,_,_,hlt,HE.out,H3.out⟩
   case measure=>rw[hmu,J2];omega
end
namespace Ex
open Go.RowKit
def Ui (l:List Nat):List Value:=l.map fun (c:Nat)=>Value.int .u8 (c:Int)
def adC:List Nat→AV
 |[]=>.bT
 |l=>.slice 0 0 0 l.length none
def adB:List Nat→AW
 |[]=>⟨1,[],[],bE⟩
 |l=>⟨1,[(0,.cells (u8s l) 5 (some 1))],[],bE⟩
theorem Ry (m:Nat):∀l:List Nat,oks m (u8s l)
 |[]=>trivial
 |_::l=>⟨trivial,Ry m l⟩
theorem Rz:∀l:List Nat,(u8s l).length=l.length
 |[]=>rfl
 |_::l=>by simp only[u8s,List.length_cons,Rz l]
theorem adx {w0 w:World}(hG:eT w0)(hb0:Below w0.heap.size w0 w){l:List Nat}{A:Option Addr}{c:Nat}(hA:w.ownsRow w0.heap.size 5 1 (.slice A l.length c) l.length (Ui l))(hn:l=[]→A=none∧c=0):
 ∃ρ,aJ w0 ρ (adB l) w∧(adC l).ok (adB l).nx∧cv ρ (adC l)= .slice A l.length c:=by
 cases l with
 |nil=>
  obtain⟨rfl,rfl⟩:=hn rfl;exact⟨iY,⟨hb0,fun b k hb=>(by cases hb),fun b b' k k' hb=>(by cases hb),fun b k hb=>(by cases hb),xW,hG⟩,trivial,rfl⟩
 |cons a l=>
  rcases hA.2 with⟨_,h0⟩|⟨q,cap,cur,hv,hB,hh,h1,h2,h3,h4⟩
  ·cases h0
  ·obtain⟨rfl,rfl⟩:A=some ⟨q,0,none⟩∧c=cap:=by
    injection hv with a1 a2 a3
    exact⟨a1,a3⟩
   let ρ:Env:=⟨fun _=>q,fun _=>c,fun _=>(⟨0,0,none⟩,0)⟩
   have hbl:∀b kk,au b (adB (a::l)).bl=some kk→b=0∧kk= .cells (u8s (a::l)) 5 (some 1):=fun b kk hb=>by
    by_cases hb0:b=0
    ·subst hb0;exact⟨rfl,(zq (hb.symm.trans (aA _ _ _)))⟩
    ·have:=hb.symm.trans (aD _ _ fun e=>hb0 e.symm)
     cases this
   refine⟨ρ,⟨hb0,fun b kk hb=>?_,fun b b' kk kk' h1 h2 _=>?_,fun b kk hb=>?_,yA.2 ⟨List.not_mem_nil,xW⟩,hG⟩,wy,?_⟩
   ·obtain⟨rfl,rfl⟩:=hbl b kk hb;exact⟨wy,Ry _ _,hB,lt_of_heap hh⟩
   ·rw[(hbl b kk h1).1,(hbl b' kk' h2).1]
   ·obtain⟨rfl,rfl⟩:=hbl b kk hb;refine⟨(a::l).length,cur,hh,h1,h2,h3,?_,?_⟩
    ·rw[Rz,vP]
    ·rw[h4];exact (RA ρ (a::l)).symm
   ·rfl
def Jv:List Nat→Nat
 |[203]=>1
 |[237]=>2
 |[221]=>3
 |[253]=>4
 |[221,203]=>5
 |[253,203]=>6
 |_=>0
def rH:List (List Nat):=[[],[203],[237],[221],[253],[221,203],[253,203]]
def af5:Option (AV×AW)→Option Nat
 |some (.tuple [.int .i64 (.ofNat p),.bool true],W)=>match W.az with
  |[]=>some p
  |_=>none
 |_=>none
noncomputable def pgB (l:List Nat):Bool:=nq (af5 (dx OV 431 [adC l] (adB l))) (Jv l)
theorem apY:pgB []=true:=by kernel_rfl
theorem apX:pgB [203]=true:=by kernel_rfl
theorem apW:pgB [237]=true:=by kernel_rfl
theorem apV:pgB [221]=true:=by kernel_rfl
theorem apU:pgB [253]=true:=by kernel_rfl
theorem apT:pgB [221,203]=true:=by kernel_rfl
theorem apS:pgB [253,203]=true:=by kernel_rfl
theorem ah1 {l:List Nat}(h:l∈rH):pgB l=true:=by
 simp only[rH,List.mem_cons,List.not_mem_nil,or_false] at h;rcases h with rfl|rfl|rfl|rfl|rfl|rfl|rfl
 ·exact apY
 ·exact apX
 ·exact apW
 ·exact apV
 ·exact apU
 ·exact apT
 ·exact apS
theorem DD {w0 w:World}(hG:eT w0)(hb0:Below w0.heap.size w0 w){l:List Nat}(hl:l∈rH){A:Option Addr}{c:Nat}(hA:w.ownsRow w0.heap.size 5 1 (.slice A l.length c) l.length (Ui l))(hn:l=[]→A=none∧c=0):
 Calls Tryz.prog 431 #[.slice A l.length c] w fun e w'=>e= .returned (.tuple #[.int .i64 (Jv l:Nat),.bool true])∧Below w.heap.size w w':=by
 obtain⟨ρ,hW,hok,hv⟩:=adx hG hb0 hA hn;have h:=YO (ah1 hl);unfold af5 at h;split at h
 case h_2=>cases h
 case h_1 p W' hq=>
 split at h
 case h_2=>cases h
 case h_1 hm=>
 obtain rfl:=zq h;obtain⟨_,_,q3⟩:=aT fB nR _ _ _ _ _ hq;have hc:=q3 w0 ρ w ⟨hok,trivial⟩ hW
 have ea:(aH ρ [adC l]).toArray=#[.slice A l.length c]:=by
  simp only[aH,hv]
 rw[ea] at hc;refine hc.mono ?_;rintro e w' ⟨ρ',rfl,hP,_⟩;exact⟨rfl,hP.fZ hm⟩
end Ex
section
open Go.RowKit
theorem VF (lo hi x:Int):iy lo hi [x]=qO lo hi x:=by
 unfold qO;simp[iy]
theorem SG (lo hi x:Int)(b1 b2:Nat)(w:World)(h1:w.cell? ⟨b1,0,none⟩=some (.int .i64 lo))(h2:w.cell? ⟨b2,0,none⟩=some (.int .i64 hi)):
 Calls Tryz.prog 316 #[.int .i64 x,.pointer (some ⟨b1,0,none⟩),.pointer (some ⟨b2,0,none⟩)] w fun e w'=>e= .returned (.bool (qO lo hi x))∧Below w.heap.size w w':=by
 have C:Hid (∀W:World,Calls Tryz.prog 96 #[.int .i64 lo,.int .i64 hi,.slice (some ⟨W.heap.size,0,none⟩) 1 1] (W.alloc (.cells #[.int .i64 x] 3)) fun e w'=>e= .returned (.bool (qO lo hi x))∧W.alloc (.cells #[.int .i64 x] 3)=w'):=fun W=>by
  rw[← VF];exact Al lo hi _ [x] 1 _ (fun _=>True) zw (Rd.new W #[.int .i64 x] 3 trivial)
 have HB:Hid (Below w.heap.size w (w.alloc (.cells #[.int .i64 x] 3))):=(zh _ _).alloc (zn _) _;go_enter Tryz.func316,Tryz.ntmps316
 go_wp2_with (go_at_call 96;refine (C.out w).mono ?_;rintro e w1 ⟨rfl,rfl⟩)
 go_ret;exact⟨rfl,HB.out⟩
def jN (W:World)(v:Option Vr)(idx:Int)(f:Value)(there:Bool):Prop:=match v with
 |none=>there=false
 |some v=>there=true∧idx=(v.1:Int)∧∃b1 b2,f= .func (.func 316) #[] #[.pointer (some ⟨b1,0,none⟩),.pointer (some ⟨b2,0,none⟩)]∧W.cell? ⟨b1,0,none⟩=some (.int .i64 v.2.1)∧W.cell? ⟨b2,0,none⟩=some (.int .i64 v.2.2)
def Rest (B r:Nat)(s:ByteArray)(ok:Bool)(A:Option Addr)(n c:Nat)(l:List aG)(W:World):Prop:=Bk W r 28 [.string (if ok then s else ⟨#[]⟩),.slice A n c]∧Ow W B A l∧B≤r∧(l≠[]→∀a,A=some a→a.block≠r)
theorem Ut (B r:Nat)(s:ByteArray)(ok:Bool)(A:Option Addr)(n c:Nat)(l:List aG)(w:World)(idx:Int)(f:Value)(hB:B≤w.heap.size)(h:Rest B r s ok A n c l w):
 Calls Tryz.prog 186 #[.agg #[.int .i64 idx,f],.bool false,.pointer (some ⟨r,0,none⟩)] w fun e w'=>e= .returned (.int .i64 0)∧Rest B r s ok A n c l w'∧Below B w w':=by
 have HB:Hid (Below w.heap.size w (w.alloc (.cells #[.int .i64 idx,f] 286))):=(zh _ _).alloc (zn _) _;have HR:Hid (Rest B r s ok A n c l (w.alloc (.cells #[.int .i64 idx,f] 286))∧Below B w (w.alloc (.cells #[.int .i64 idx,f] 286))):=⟨⟨h.1.alloc _,h.2.1.after HB.out,h.2.2⟩,HB.mono hB⟩;clear h hB;go_enter Tryz.func186,Tryz.ntmps186;go_wp2;go_ret;exact⟨rfl,HR.out⟩
theorem Us (B r:Nat)(s:ByteArray)(A:Option Addr)(n c:Nat)(l:List aG)(w:World)(f:Value)(k:Nat)(lo hi:Int)(b1 b2:Nat)(o:aG)(ok:Bool)(hf:f= .func (.func 316) #[] #[.pointer (some ⟨b1,0,none⟩),.pointer (some ⟨b2,0,none⟩)])(h1:w.cell? ⟨b1,0,none⟩=some (.int .i64 lo))(h2:w.cell? ⟨b2,0,none⟩=some (.int .i64 hi))
 (hB:B≤w.heap.size) (hk:l[k]? =some o) (hn:n=l.length) (hm:l.length≤3) (hr:Rest B r s ok A n c l w):
 Calls Tryz.prog 186 #[.agg #[.int .i64 (k:Int),f],.bool true,.pointer (some ⟨r,0,none⟩)] w fun e w'=>e= .returned (.int .i64 o.2.2)∧Rest B r s (cond (qO lo hi o.2.2) ok false) A n c (cond (qO lo hi o.2.2) (nz l k 0) l) w'∧Below B w w':=by
 subst hf;have hBs:=hB;have C:Hid (∀W,Below w.heap.size w W→Calls Tryz.prog 316 #[.int .i64 o.2.2,.pointer (some ⟨b1,0,none⟩),.pointer (some ⟨b2,0,none⟩)] W fun e w'=>e= .returned (.bool (qO lo hi o.2.2))∧Below W.heap.size W w'):=fun W hb=>SG lo hi o.2.2 b1 b2 W (BC hb h1) (BC hb h2)
 have HB:Hid (Below w.heap.size w (w.alloc (.cells #[.int .i64 (k:Int),.func (.func 316) #[] #[.pointer (some ⟨b1,0,none⟩),.pointer (some ⟨b2,0,none⟩)]] 286))):=(zh _ _).alloc (zn _) _;have HR:Hid (Rest B r s ok A n c l (w.alloc (.cells #[.int .i64 (k:Int),.func (.func 316) #[] #[.pointer (some ⟨b1,0,none⟩),.pointer (some ⟨b2,0,none⟩)]] 286))∧Below B w (w.alloc (.cells #[.int .i64 (k:Int),.func (.func 316) #[] #[.pointer (some ⟨b1,0,none⟩),.pointer (some ⟨b2,0,none⟩)]] 286))):=⟨⟨hr.1.alloc _,hr.2.1.after HB.out,hr.2.2⟩,HB.mono hB⟩;have HV:Hid (Bk (w.alloc (.cells #[.int .i64 (k:Int),.func (.func 316) #[] #[.pointer (some ⟨b1,0,none⟩),.pointer (some ⟨b2,0,none⟩)]] 286)) w.heap.size 286 [.int .i64 (k:Int),.func (.func 316) #[] #[.pointer (some ⟨b1,0,none⟩),.pointer (some ⟨b2,0,none⟩)]]):=Bk.new w 286 [.int .i64 (k:Int),.func (.func 316) #[] #[.pointer (some ⟨b1,0,none⟩),.pointer (some ⟨b2,0,none⟩)]];obtain⟨q,off,rfl,hq,c0,c1,c2,fr2,_⟩:=HR.1.2.1.cells hk;have hl0:l≠[]:=fun e=>by rw[e] at hk;cases hk
 have HQ:Hid (q≠r):=hr.2.2.2 hl0 _ rfl;clear hl0;have g0:=HR.1.1.cell 0 rfl;have g1:=HR.1.1.cell 1 rfl;have hkn:k < n:=by rw[hn];exact (zf.1 hk).1
 have hn3:(n:Int)≤3:=zy;have HK:=zo hk;clear hr hk hn hm h1 h2 hB c0 c1
 have HS:Hid (∀W,Below (w.alloc (.cells #[.int .i64 (k:Int),.func (.func 316) #[] #[.pointer (some ⟨b1,0,none⟩),.pointer (some ⟨b2,0,none⟩)]] 286)).heap.size (w.alloc (.cells #[.int .i64 (k:Int),.func (.func 316) #[] #[.pointer (some ⟨b1,0,none⟩),.pointer (some ⟨b2,0,none⟩)]] 286)) W→
  Rest B r s ok (some ⟨q,off,none⟩) n c l W∧Below B w W∧Bk W w.heap.size 286 [.int .i64 (k:Int),.func (.func 316) #[] #[.pointer (some ⟨b1,0,none⟩),.pointer (some ⟨b2,0,none⟩)]]):=fun W hW=>
  ⟨⟨HR.1.1.after hW,HR.1.2.1.after hW,HR.1.2.2⟩,HR.2.trans (hW.mono (zV (by have:=HR.2.size;exact hBs) HB.size)),HV.after hW⟩
 generalize hx:qO lo hi o.2.2=b at C ⊢;generalize o.2.2=x at C c2 ⊢
 cases b with
 |true=>
  go_enter Tryz.func186,Tryz.ntmps186
  go_wp2_with (go_at_call 316;refine (C.out _ HB.out).mono ?_;rintro e w2 ⟨rfl,hb⟩;have H2:=zo (HS.out w2 hb);obtain⟨q',off',hq',_,d0,d1,d2,fd2,hset⟩:=H2.1.2.1.cells HK.out;obtain⟨rfl,rfl⟩:q=q'∧off=off':=(by simpa using hq');have e0:=H2.1.1.cell 0 rfl;have e1:=H2.1.1.cell 1 rfl;have v0:=H2.2.2.cell 0 rfl;have v1:=H2.2.2.cell 1 rfl;have arR:=zo (hset 0);clear hb hset hq' d0 d1)
  go_ret;refine⟨rfl,⟨H2.1.1.other (by show r≠q;exact xq HQ.out) _,?_,H2.1.2.2.1,fun _ a ha=>?_⟩,H2.2.1.setCell hq _⟩
  rotate_left
  ·obtain rfl:=zq ha;exact HQ.out
  have:=arR.out;simp only[cond_true];unfold nz;rw[HK.out];exact this
 |false=>
  go_enter Tryz.func186,Tryz.ntmps186
  go_wp2_with (go_at_call 316;refine (C.out _ HB.out).mono ?_;rintro e w2 ⟨rfl,hb⟩;have H2:=zo (HS.out w2 hb);have e0:=H2.1.1.cell 0 rfl;have e1:=H2.1.1.cell 1 rfl;have fe0:=H2.1.1.frozen 0;clear hb)
  go_ret;refine⟨rfl,⟨?_,H2.1.2.1.ne (fun hl a ha=>H2.1.2.2.2 hl a ha) _,H2.1.2.2⟩,H2.2.1.setCell H2.1.2.2.1 _⟩
  exact H2.1.1.set 0 _
theorem Xz (B r:Nat)(s:ByteArray)(A:Option Addr)(n c:Nat)(l:List aG)(w:World)(f:Value)(idx:Int)(there:Bool)(v:Option Vr)(ok:Bool)(hv:jN w v idx f there)(hB:B≤w.heap.size)(hl:∀x,v=some x→x.1 < l.length)(hn:n=l.length)(hm:l.length≤3)(hr:Rest B r s ok A n c l w):
 Calls Tryz.prog 186 #[.agg #[.int .i64 idx,f],.bool there,.pointer (some ⟨r,0,none⟩)] w fun e w'=>e= .returned (.int .i64 (takeN v l))∧Rest B r s (ok && takeB v l) A n c (gI v l) w'∧Below B w w':=by
 cases v with
 |none=>
  obtain rfl:there=false:=hv;refine (Ut B r s ok A n c l w idx f hB hr).mono ?_;rintro e w' ⟨rfl,h1,h2⟩;exact⟨rfl,by simpa [takeB,gI] using h1,h2⟩
 |some x=>
  obtain⟨rfl,rfl,b1,b2,hf,h1,h2⟩:=hv;have hx:=hl x rfl;have hk:=zg hx;refine (Us B r s A n c l w f x.1 x.2.1 x.2.2 b1 b2 l[x.1] ok hf h1 h2 hB hk hn hm hr).mono ?_;have e1:iJ l x.1=l[x.1].2.2:=bR hk;rintro e w' ⟨rfl,h3,h4⟩;refine⟨by simp only[takeN,e1],?_,h4⟩
  simp only[takeB,gI,e1]
  cases h:qO x.2.1 x.2.2 l[x.1].2.2 with
  |true=>rw[h] at h3;simpa using h3
  |false=>rw[h] at h3;simpa using h3
theorem qj (v:Option Vr)(l:List aG):(gI v l).length=l.length:=by
 unfold gI;split
 ·rfl
 ·rename_i v'
  cases qO v'.2.1 v'.2.2 (iJ l v'.1)
  ·rfl
  ·exact Br _ _ _
abbrev afz (w:World)(g:Nat)(eV:Value)(v:Option Vr):Prop:=∀W,Below w.heap.size w W→Calls Tryz.prog g #[eV] W fun e w'=>∃idx f there,e= .returned (.tuple #[.agg #[.int .i64 idx,f],.bool there])∧jN w' v idx f there∧Below W.heap.size W w'
abbrev IU (w:World)(B r:Nat)(s:ByteArray)(ok:Bool)(A:Option Addr)(n c:Nat)(l:List aG)(e:List Value)(W:World):Prop:=Rest B r s ok A n c l W∧Below w.heap.size w W∧Bk W w.heap.size 133 e∧B≤W.heap.size
theorem EC {w w1 w2:World}{A:Option Addr}{l:List aG}{e:List Value}(ho:Ow w2 w1.heap.size A l)(hk:Bk w2 w.heap.size 133 e)(hb:Below w.heap.size w w2)(hs:w1.heap.size≤w2.heap.size)(s:ByteArray)(n c:Nat):
 IU w w1.heap.size w2.heap.size s true A n c l e (w2.alloc (.cells #[.string s,.slice A n c] 28)):=by
 refine⟨⟨Bk.new w2 28 [.string s,.slice A n c],ho.after ((zh _ _).alloc (zn _) _),hs,fun hl a ha=>?_⟩,hb.alloc hb.size _,hk.alloc _,by simp;omega⟩
 obtain⟨q,off,cur,T,hA,_,hh,_⟩:=ho hl;rw[hA] at ha;obtain rfl:=zq ha;have:=dV hh;show q≠w2.heap.size;omega
theorem Az {w W W':World}{B r n c:Nat}{s:ByteArray}{ok:Bool}{A:Option Addr}{l:List aG}{e:List Value}(h:IU w B r s ok A n c l e W)(hb:Below W.heap.size W W'):IU w B r s ok A n c l e W':=
 ⟨⟨h.1.1.after hb,h.1.2.1.after hb,h.1.2.2⟩,h.2.1.trans (hb.mono h.2.1.size),h.2.2.1.after hb,zV h.2.2.2 hb.size⟩
theorem Ay {w W W':World}{B r n c:Nat}{s:ByteArray}{ok ok':Bool}{A:Option Addr}{l l':List aG}{e:List Value}(h:IU w B r s ok A n c l e W)(hlt:w.heap.size < B)(hr:Rest B r s ok' A n c l' W')(hb:Below B W W'):IU w B r s ok' A n c l' e W':=
 ⟨hr,h.2.1.trans (hb.mono zy),h.2.2.1.below hb hlt,zV h.2.2.2 hb.size⟩
def NL (b:Bool)(d n:Int):Value:=if b then .tuple #[.int .i64 d,.int .i64 n,.bool true] else .tuple #[.int .i64 0,.int .i64 0,.bool false]
theorem aag (pg o:Int)(s ex:ByteArray)(al:Bool)(A A':Option Addr)(l l':List aG)(n n' c c':Nat)(w:World)(p p':Nat→Prop)(vd vn:Option Vr)(hs:s.size≤1000)(hup:upS s=s)(hs0:s≠⟨#[]⟩)(hn:n=l.length)(hn':n'=l'.length)(_hm:l.length≤3)(hm':l'.length≤3)(hll:l.length=l'.length)(hvd:∀x,vd=some x→x.1 < l.length)(Hz:∀x,vn=some x→x.1 < l.length)(h:Rd w p A (dD l))(h':Rd w p' A' (dD l'))
 (C1:∀W,Below w.heap.size w W→Calls Tryz.prog 113 #[.agg #[.int .i64 pg,.int .u8 o,.string s,.slice A n c,.string ex,.bool al],.agg #[.string s,.slice A' n' c']] W fun e w'=>e= .returned (.bool true)∧Below W.heap.size W w')
 (C3:afz w 187 (.agg #[.int .i64 pg,.int .u8 o,.string s,.slice A n c,.string ex,.bool al]) vd) (C4:afz w 188 (.agg #[.int .i64 pg,.int .u8 o,.string s,.slice A n c,.string ex,.bool al]) vn):
 Calls Tryz.prog 114 #[.agg #[.int .i64 pg,.int .u8 o,.string s,.slice A n c,.string ex,.bool al],.agg #[.string s,.slice A' n' c']] w fun e w'=>e= .returned (NL (BI vd vn l l') (takeN vd l') (takeN vn (gI vd l')))∧Below w.heap.size w w':=by
 have C1:=zo C1;have C3:=zo C3;have C4:=zo C4
 have C2:Hid (∀W,Below w.heap.size w W→Calls Tryz.prog 57 #[.string s,.slice A' n' c'] W fun e w'=>∃A2 c2,e= .returned (.agg #[.string s,.slice A2 n' c2])∧Ow w' W.heap.size A2 l'∧n'≤c2∧Below W.heap.size W w'):=fun W hb=>by
  have:=D5 s A' l' n' c' W p' hs hn' zy (h'.after hb);rwa [hup] at this
 have CT:=zo (fun B r A2 c2 (L:List aG) W f idx there v ok (hv:jN W v idx f there) hB hl (hL:L.length=l'.length) hr=>Xz B r s A2 n' c2 L W f idx there v ok hv hB hl (by rw[hL,hn']) zy hr)
 have CS:Hid (∀(W:World) (t:ByteArray) (A2:Option Addr) (c2:Nat) (L:List aG),L.length=l'.length→Below w.heap.size w W→Rd W (fun _=>True) A2 (dD L)→Calls Tryz.prog 184 #[.agg #[.string t,.slice A2 n' c2],.agg #[.string s,.slice A n c]] W fun e w'=>e= .returned (.bool (decide (t=s∧L=l)))∧Below W.heap.size W w'):=fun W t A2 c2 L hL hb r=>Hy t s A2 A L l n' n c2 c W _ _ (by rw[hL,hn']) hn.symm zy r (h.after hb)
 have HA:Hid (Below w.heap.size w ((w.alloc (.cells #[.int .i64 pg,.int .u8 o,.string s,.slice A n c,.string ex,.bool al] 133)).alloc (.cells #[.string s,.slice A' n' c'] 28))):=((zh _ _).alloc (zn _) _).alloc zw _
 have jq:Hid (Bk ((w.alloc (.cells #[.int .i64 pg,.int .u8 o,.string s,.slice A n c,.string ex,.bool al] 133)).alloc (.cells #[.string s,.slice A' n' c'] 28)) w.heap.size 133 [.int .i64 pg,.int .u8 o,.string s,.slice A n c,.string ex,.bool al]):=
  (Bk.new w 133 [.int .i64 pg,.int .u8 o,.string s,.slice A n c,.string ex,.bool al]).alloc _
 have qL:Hid (Bk ((w.alloc (.cells #[.int .i64 pg,.int .u8 o,.string s,.slice A n c,.string ex,.bool al] 133)).alloc (.cells #[.string s,.slice A' n' c'] 28)) (w.heap.size+1) 28 [.string s,.slice A' n' c']):=by
  have:=Bk.new (w.alloc (.cells #[.int .i64 pg,.int .u8 o,.string s,.slice A n c,.string ex,.bool al] 133)) 28 [.string s,.slice A' n' c'];rwa [zU] at this
 have hmf:∀(fn:Fn) (first cap:Array Value) (w:World),(Instr.makeFunc fn first cap).run Tryz.prog w= .ok (.func fn first cap) w:=fun _ _ _ _=>rfl
 have HV1:=zo hvd;have HV2:=zo Hz;have HLL:=zo hll;have HS0:=zo hs0;clear h h' hs hn hn' _hm hm' hup hvd Hz hll hs0
 have HF:Hid (∀ok,ok=((true && takeB vd l') && takeB vn (gI vd l'))→decide ((if ok=true then s else ⟨#[]⟩)=s∧gI vn (gI vd l')=l)=BI vd vn l l'):=by
  rintro ok rfl;unfold BI
  cases takeB vd l'<;>cases takeB vn (gI vd l')<;>simp[Ne.symm HS0.out]
 generalize BI vd vn l l'=b at HF ⊢
 cases b
 all_goals
  go_enter Tryz.func114,Tryz.ntmps114
  go_wp2_with (first
   |(go_at_call 113;refine (C1.out _ HA.out).mono ?_;rintro e w1 ⟨rfl,hb⟩;have HB1:=zo (HA.trans (hb.mono HA.size));have K1:=zo (zM (jq.after hb) (qL.after hb));have HLT:=zo K1.1.lt;have a0:=K1.2.cell 0 rfl;have a1:=K1.2.cell 1 rfl;clear hb)
   |(go_at_call 57;refine (C2.out _ HB1.out).mono ?_;rintro e w2 ⟨A2,c2,rfl,ho,hc,hb⟩;have H3:=zo (EC ho (K1.1.after hb) (HB1.trans (hb.mono HB1.size)) hb.size s n' c2);have b0:=H3.2.2.1.cell 0 rfl;have b1:=H3.2.2.1.cell 1 rfl;have b2:=H3.2.2.1.cell 2 rfl;have b3:=H3.2.2.1.cell 3 rfl;have b4:=H3.2.2.1.cell 4 rfl;have b5:=H3.2.2.1.cell 5 rfl;clear a0 a1 hb ho hc)
   |(go_at_call 187;refine (C3.out _ H3.2.1).mono ?_;rintro e w4 ⟨idx,f,there,rfl,hv,hb⟩;have H4:=zo (Az H3.out hb);have HV:=zo hv;clear hb hv b0 b1 b2 b3 b4 b5)
   |(go_at_call 186;(with_reducible refine (CT.out _ _ _ _ _ w4 f idx there vd true HV.out (H4.out.2.2.2) (fun x hx=>by rw[← HLL.out];exact HV1.out x hx) rfl H4.out.1).mono ?_);rintro e w5 ⟨rfl,hr,hb⟩;have H5:=zo (Ay H4.out HLT.out hr hb);have b0:=H5.out.2.2.1.cell 0 rfl;have b1:=H5.out.2.2.1.cell 1 rfl;have b2:=H5.out.2.2.1.cell 2 rfl;have b3:=H5.out.2.2.1.cell 3 rfl;have b4:=H5.out.2.2.1.cell 4 rfl;have b5:=H5.out.2.2.1.cell 5 rfl;clear hb hr)
   |(go_at_call 188;refine (C4.out _ H5.2.1).mono ?_;rintro e w6 ⟨Qz,f2,Pj,rfl,hv,hb⟩;have H6:=zo (Az H5.out hb);have HW:=zo hv;clear hb hv b0 b1 b2 b3 b4 b5)
   |(go_at_call 186;(with_reducible refine (CT.out _ _ _ _ _ w6 f2 Qz Pj vn _ HW.out (H6.out.2.2.2) (fun x hx=>by rw[qj,← HLL.out];exact HV2.out x hx) (qj _ _) H6.out.1).mono ?_);rintro e w7 ⟨rfl,hr,hb⟩;have H7:=zo (Ay H6.out HLT.out hr hb);obtain⟨t,ht⟩:∃t:ByteArray,(if ((true && takeB vd l') && takeB vn (gI vd l'))=true then s else ⟨#[]⟩)=t:=⟨_,rfl⟩;have r0:=H7.out.1.1.cell 0 rfl;have r1:=H7.out.1.1.cell 1 rfl;rw[ht] at r0;have HT:=zo ht;have b2:=H7.out.2.2.1.cell 2 rfl;have b3:=H7.out.2.2.1.cell 3 rfl;clear hb hr ht)
   |(go_at_call 184;refine (CS.out _ t _ _ (gI vn (gI vd l')) (by rw[qj,qj]) H7.2.1 (H7.1.2.1.rd.jH fun _ _=>trivial)).mono ?_;rintro e w8 ⟨he,hb⟩;rw[← HT.out,HF.out _ rfl] at he;subst he;have H8:=zo (H7.2.1.trans (hb.mono H7.2.1.size));clear hb))
  go_ret3
  exact⟨rfl,H8.out⟩
def FO (v:Option Vr)(x:Int):Bool:=match v with
 |none=>decide (x=0)
 |some v=>qO v.2.1 v.2.2 x
theorem iL (v:Option Vr)(l:List aG)(x:Int):(pM v l x).length=l.length:=by
 unfold pM;split
 ·rfl
 ·exact Br _ _ _
theorem Yk (B r:Nat)(s:ByteArray)(A:Option Addr)(n c:Nat)(l:List aG)(w:World)(f:Value)(k:Nat)(lo hi x:Int)(b1 b2:Nat)(o:aG)(hf:f= .func (.func 316) #[] #[.pointer (some ⟨b1,0,none⟩),.pointer (some ⟨b2,0,none⟩)])(h1:w.cell? ⟨b1,0,none⟩=some (.int .i64 lo))(h2:w.cell? ⟨b2,0,none⟩=some (.int .i64 hi))(hb1:b1 < B∨(l≠[]→∀a,A=some a→a.block≠b1))(hb2:b2 < B∨(l≠[]→∀a,A=some a→a.block≠b2))
 (hB:B≤w.heap.size) (hk:l[k]? =some o) (hn:n=l.length) (hm:l.length≤3) (hr:Rest B r s true A n c l w) (hin:qO lo hi x=true):
 Calls Tryz.prog 448 #[.agg #[.int .i64 (k:Int),f],.bool true,.int .i64 x,.pointer (some ⟨r,0,none⟩)] w fun e w'=>e= .returned (.bool true)∧Rest B r s true A n c (nz l k x) w'∧Below B w w'∧(∀i,i < w.heap.size→(l≠[]→∀a,A=some a→a.block≠i)→w'.heap[i]? =w.heap[i]?):=by
 subst hf;have HB:Hid (Below w.heap.size w (w.alloc (.cells #[.int .i64 (k:Int),.func (.func 316) #[] #[.pointer (some ⟨b1,0,none⟩),.pointer (some ⟨b2,0,none⟩)]] 286))):=(zh _ _).alloc (zn _) _;have HR:Hid (Rest B r s true A n c l (w.alloc (.cells #[.int .i64 (k:Int),.func (.func 316) #[] #[.pointer (some ⟨b1,0,none⟩),.pointer (some ⟨b2,0,none⟩)]] 286))∧Below B w (w.alloc (.cells #[.int .i64 (k:Int),.func (.func 316) #[] #[.pointer (some ⟨b1,0,none⟩),.pointer (some ⟨b2,0,none⟩)]] 286))):=⟨⟨hr.1.alloc _,hr.2.1.after HB.out,hr.2.2⟩,HB.mono hB⟩;have HV:Hid (Bk (w.alloc (.cells #[.int .i64 (k:Int),.func (.func 316) #[] #[.pointer (some ⟨b1,0,none⟩),.pointer (some ⟨b2,0,none⟩)]] 286)) w.heap.size 286 [.int .i64 (k:Int),.func (.func 316) #[] #[.pointer (some ⟨b1,0,none⟩),.pointer (some ⟨b2,0,none⟩)]]):=Bk.new w 286 [.int .i64 (k:Int),.func (.func 316) #[] #[.pointer (some ⟨b1,0,none⟩),.pointer (some ⟨b2,0,none⟩)]];have hlt1:=lt_of_cell h1;have hlt2:=lt_of_cell h2;have g1:=BC HB.out h1;have g2:=BC HB.out h2;generalize hW:(w.alloc (.cells #[.int .i64 (k:Int),.func (.func 316) #[] #[.pointer (some ⟨b1,0,none⟩),.pointer (some ⟨b2,0,none⟩)]] 286))=W0 at HB HR HV g1 g2;have hs0:W0.heap.size=w.heap.size+1:=by rw[← hW];simp
 obtain⟨q,off,rfl,hq,c0,c1,c2,fr2,hset⟩:=HR.1.2.1.cells hk;have hl0:l≠[]:=fun e=>by rw[e] at hk;cases hk
 have hqr:q≠r:=hr.2.2.2 hl0 _ rfl
 have amP:q≠b1:=by
  rcases hb1 with h|h
  ·omega
  ·exact h hl0 _ rfl
 have amO:q≠b2:=by
  rcases hb2 with h|h
  ·omega
  ·exact h hl0 _ rfl
 have hqw:q≠w.heap.size:=by
  have:=hr.2.1 hl0;obtain⟨q',off',cur,T,hA,_,hh,_⟩:=this
  have e:q=q':=by
   have:=zq hA;injection this
  have:=dV hh;omega
 have g0:=HR.1.1.cell 0 rfl;have g3:=HR.1.1.cell 1 rfl;have v0:=HV.cell 0 rfl;have v1:=HV.cell 1 rfl;have hkn:k < n:=by rw[hn];exact (zf.1 hk).1
 have hn3:(n:Int)≤3:=zy;obtain⟨W1,hW1⟩:∃W1,W0.setCell ⟨q,off+k * 3+2,none⟩ (.int .i64 x)=W1:=⟨_,rfl⟩
 have HR1:Hid (Rest B r s true (some ⟨q,off,none⟩) n c (nz l k x) W1∧Below B w W1):=by
  have e:nz l k x=l.set k (o.1,o.2.1,x):=by
   unfold nz;rw[hk]
  rw[e,← hW1];refine⟨⟨HR.1.1.other (by show r≠q;exact xq hqr) _,hset x,HR.1.2.2.1,fun _ a ha=>?_⟩,HR.2.setCell hq _⟩
  obtain rfl:=zq ha;exact hqr
 have C:Hid (∀W,Below W1.heap.size W1 W→Calls Tryz.prog 316 #[.int .i64 x,.pointer (some ⟨b1,0,none⟩),.pointer (some ⟨b2,0,none⟩)] W fun e w'=>e= .returned (.bool true)∧Below W.heap.size W w'):=fun W hb=>by
  have k1:W1.cell? ⟨b1,0,none⟩=some (.int .i64 lo):=by
   rw[← hW1,yz (w:=W0) (zG _ _ _ b1 (xq amP))];exact g1
  have k2:W1.cell? ⟨b2,0,none⟩=some (.int .i64 hi):=by
   rw[← hW1,yz (w:=W0) (zG _ _ _ b2 (xq amO))];exact g2
  have:=SG lo hi x b1 b2 W (BC hb k1) (BC hb k2);rwa [hin] at this
 have v1':W1.cell? ⟨w.heap.size,1,none⟩=some (.func (.func 316) #[] #[.pointer (some ⟨b1,0,none⟩),.pointer (some ⟨b2,0,none⟩)]):=by
  rw[← hW1,yz (w:=W0) (zG _ _ _ w.heap.size (xq hqw))];exact v1
 have HBB:=zo hB
 have HKK:Hid (∀w',Below W1.heap.size W1 w'→∀i,i < w.heap.size→(l≠[]→∀a,some (⟨q,off,none⟩:Addr)=some a→a.block≠i)→w'.heap[i]? =w.heap[i]?):=fun w' hb i hi hne=>by
  have hqi:q≠i:=hne hl0 _ rfl
  have e1:W1.heap[i]? =w.heap[i]?:=by
   rw[← hW1];exact (zG _ _ _ i (xq hqi)).trans (by rw[← hW];exact wT w _ i hi)
  have hs:i < W1.heap.size:=by rw[← hW1];simp;omega
  exact (hb.block i hs).trans e1
 clear hset hk hn hm hr hl0 h1 h2 hlt1 hlt2 hb1 hb2 hB g1 g2 hs0 hin c0 c1 hqr amP amO hqw v1;go_enter Tryz.func448,Tryz.ntmps448;subst hW1;subst hW
 go_wp2_with (go_at_call 316;refine (C.out _ (zh _ _)).mono ?_;rintro e w2 ⟨rfl,hb⟩;have HB2:=zo hb;clear hb)
 go_ret;exact⟨rfl,⟨HR1.1.1.after HB2.out,HR1.1.2.1.after HB2.out,HR1.1.2.2⟩,HR1.2.trans (HB2.mono (zV HBB.out HR1.2.size)),HKK.out _ HB2.out⟩
theorem Ym (B r:Nat)(s:ByteArray)(A:Option Addr)(n c:Nat)(l:List aG)(w:World)(idx:Int)(f:Value)(hB:B≤w.heap.size)(h:Rest B r s true A n c l w):
 Calls Tryz.prog 448 #[.agg #[.int .i64 idx,f],.bool false,.int .i64 0,.pointer (some ⟨r,0,none⟩)] w fun e w'=>e= .returned (.bool true)∧Rest B r s true A n c l w'∧Below B w w'∧(∀k,k < w.heap.size→(l≠[]→∀a,A=some a→a.block≠k)→w'.heap[k]? =w.heap[k]?):=by
 have HB:Hid (Below w.heap.size w (w.alloc (.cells #[.int .i64 idx,f] 286))):=(zh _ _).alloc (zn _) _;have HR:Hid (Rest B r s true A n c l (w.alloc (.cells #[.int .i64 idx,f] 286))∧Below B w (w.alloc (.cells #[.int .i64 idx,f] 286))∧(∀k,k < w.heap.size→(l≠[]→∀a,A=some a→a.block≠k)→(w.alloc (.cells #[.int .i64 idx,f] 286)).heap[k]? =w.heap[k]?)):=⟨⟨h.1.alloc _,h.2.1.after HB.out,h.2.2⟩,HB.mono hB,fun k hk _=>wT w _ k hk⟩
 clear h hB;go_enter Tryz.func448,Tryz.ntmps448;go_wp2;go_ret;exact⟨rfl,HR.out⟩
theorem adt (B r:Nat)(s:ByteArray)(A:Option Addr)(n c:Nat)(l:List aG)(w:World)(f:Value)(idx x:Int)(there:Bool)(v:Option Vr)(hv:jN w v idx f there)(hB:B≤w.heap.size)(hl:∀y,v=some y→y.1 < l.length)(hn:n=l.length)(hm:l.length≤3)(hr:Rest B r s true A n c l w)(hx:FO v x=true)
 (hb:∀y b1 b2,v=some y→f= .func (.func 316) #[] #[.pointer (some ⟨b1,0,none⟩),.pointer (some ⟨b2,0,none⟩)]→(b1 < B∨(l≠[]→∀a,A=some a→a.block≠b1))∧(b2 < B∨(l≠[]→∀a,A=some a→a.block≠b2))):
 Calls Tryz.prog 448 #[.agg #[.int .i64 idx,f],.bool there,.int .i64 x,.pointer (some ⟨r,0,none⟩)] w fun e w'=>e= .returned (.bool true)∧Rest B r s true A n c (pM v l x) w'∧Below B w w'∧(∀k,k < w.heap.size→(l≠[]→∀a,A=some a→a.block≠k)→w'.heap[k]? =w.heap[k]?):=by
 cases v with
 |none=>
  obtain rfl:there=false:=hv;obtain rfl:x=0:=xu hx;exact Ym B r s A n c l w idx f hB hr
 |some y=>
  obtain⟨rfl,rfl,b1,b2,hf,h1,h2⟩:=hv;have hy:=hl y rfl;obtain⟨k1,k2⟩:=hb y b1 b2 rfl hf;exact Yk B r s A n c l w f y.1 y.2.1 y.2.2 x b1 b2 l[y.1] hf h1 h2 k1 k2 hB (zg hy) hn hm hr hx
end
namespace Ex
open Go.RowKit
noncomputable def Xi (g:Nat)(pg o nm al:Value)(cs:List AV)(x:List Nat):Option (AV×AW):=
 dx OV g [.agg [.raw pg,.raw o,.raw nm,TD cs,.str x,.raw al]] (afp cs)
def adI:AV→Bool
 | .fn _ _ _=>true
 | .raw v=>v.oneCell'
 |_=>false
theorem adH {ρ:Env}{f:AV}(h:adI f=true):(cv ρ f).oneCell'=true:=by
 unfold adI at h;split at h
 ·simp only[cv];rfl
 ·simpa only[cv] using h
 ·cases h
def adE:Option (AV×AW)→Option (Option Vr)
 |some (.tuple [.agg [.int .i64 i,f],.bool b],W)=>match W.az with
  |[]=>match b with
   |false=>cond (adI f) (some none) none
   |true=>match i with
    | .ofNat k=>match f with
      | .fn (.func g) [] [.ptr b1 0,.ptr b2 0]=>cond (Nat.beq g 316) (match au b1 W.bl with
        |some (.cells [.int .i64 lo] _ none)=>match au b2 W.bl with
         |some (.cells [.int .i64 hi] _ none)=>some (some (k,lo,hi))
         |_=>none
        |_=>none) none
      |_=>none
    |_=>none
  |_=>none
 |_=>none
def lY (ks ex:List Nat):Prop:=∀(pg o:Int) (nm:ByteArray) (al:Bool) (rs ns:Nat→Int),
 adE (Xi 187 (.int .i64 pg) (.int .u8 o) (.string nm) (.bool al) (Cc 0 ks rs ns) ex)=some (uI ks ex)∧adE (Xi 188 (.int .i64 pg) (.int .u8 o) (.string nm) (.bool al) (Cc 0 ks rs ns) ex)=some (JH ks ex)
def KT (W:World)(v:Option Vr)(f:Value):Prop:=∀y,v=some y→∃b1 b2 T1 T2,f= .func (.func 316) #[] #[.pointer (some ⟨b1,0,none⟩),.pointer (some ⟨b2,0,none⟩)]∧W.heap[b1]? =some (.cells #[.int .i64 y.2.1] T1 (0,0))∧W.heap[b2]? =some (.cells #[.int .i64 y.2.2] T2 (0,0))
theorem ade {w0 w:World}(hG:eT w0)(hb0:Below w0.heap.size w0 w){ks:List Nat}{rs ns:Nat→Int}{A:Option Addr}{c:Nat}(hA:gF w0.heap.size w A c (aH iY (Cc 0 ks rs ns))):
 ∃ρ,aJ w0 ρ (afp (Cc 0 ks rs ns)) w∧(TD (Cc 0 ks rs ns)).ok (afp (Cc 0 ks rs ns)).nx∧cv ρ (TD (Cc 0 ks rs ns))= .slice A ks.length c:=by
 cases ks with
 |nil=>
  rcases hA with⟨_,rfl,rfl⟩|⟨h0,_⟩
  ·exact⟨iY,⟨hb0,fun b k hb=>(by cases hb),fun b b' k k' hb=>(by cases hb),fun b k hb=>(by cases hb),xW,hG⟩,trivial,rfl⟩
  ·exact (h0 rfl).elim
 |cons k ks=>
  rcases hA with⟨h0,_⟩|⟨_,q,nn,cur,rfl,hB,hh,h2,h3,h4,h5,h6⟩
  ·cases h0
  ·let ρ:Env:=⟨fun _=>q,fun _=>c,fun _=>(⟨0,0,none⟩,0)⟩
   have hbl:∀b kk,au b (afp (Cc 0 (k::ks) rs ns)).bl=some kk→b=0∧kk= .cells (Cc 0 (k::ks) rs ns) 174 (some 3):=fun b kk hb=>by
    by_cases hb0:b=0
    ·subst hb0;exact⟨rfl,(zq (hb.symm.trans (aA _ _ _)))⟩
    ·have:=hb.symm.trans (aD _ _ fun e=>hb0 e.symm)
     cases this
   refine⟨ρ,⟨hb0,fun b kk hb=>?_,fun b b' kk kk' h1 h2 _=>?_,fun b kk hb=>?_,yA.2 ⟨List.not_mem_nil,xW⟩,hG⟩,wy,?_⟩
   ·obtain⟨rfl,rfl⟩:=hbl b kk hb;exact⟨wy,Tp _ _ _ _ _,hB,lt_of_heap hh⟩
   ·rw[(hbl b kk h1).1,(hbl b' kk' h2).1]
   ·obtain⟨rfl,rfl⟩:=hbl b kk hb;refine⟨nn,cur,hh,h2,h3,h4,?_,?_⟩
    ·rw[← h5,ay]
    ·rw[h6];exact Tv _ _ _ _ _ _
   ·show cv ρ (.slice 0 0 0 (Nat.div (Cc 0 (k::ks) rs ns).length 3) none)=_;rw[Tq];simp only[cv,Nat.sub_zero];show Value.slice _ (3 * (k::ks).length / 3) _=_;rw[Nat.mul_div_cancel_left _ zy]
theorem Gj {w0 w:World}(hG:eT w0)(hb0:Below w0.heap.size w0 w){g:Nat}{pg o nm al:Value}{ks ex:List Nat}{rs ns:Nat→Int}{A:Option Addr}{c:Nat}(hA:gF w0.heap.size w A c (aH iY (Cc 0 ks rs ns))){v:Option Vr}
 (h:adE (Xi g pg o nm al (Cc 0 ks rs ns) ex)=some v):
 Calls Tryz.prog g #[.agg #[pg,o,nm,.slice A ks.length c,.string (ag ex),al]] w fun e w'=>∃idx f there,e= .returned (.tuple #[.agg #[.int .i64 idx,f],.bool there])∧(jN w' v idx f there∧KT w' v f∧f.oneCell'=true)∧Below w.heap.size w w':=by
 obtain⟨ρ,hW,hok,hv⟩:=ade hG hb0 hA;unfold adE at h;split at h
 case h_2=>cases h
 case h_1 i f b W' hq=>
 split at h
 case h_2=>cases h
 case h_1 hm=>
 obtain⟨_,_,q3⟩:=aT fB nR _ _ _ _ _ hq;have hc:=q3 w0 ρ w ⟨⟨trivial,trivial,trivial,hok,trivial,trivial,trivial⟩,trivial⟩ hW
 have ea:(aH ρ [.agg [.raw pg,.raw o,.raw nm,TD (Cc 0 ks rs ns),.str ex,.raw al]]).toArray=#[.agg #[pg,o,nm,.slice A ks.length c,.string (ag ex),al]]:=by
  simp only[aH,cv,hv]
 rw[ea] at hc;refine hc.mono ?_;rintro e w' ⟨ρ',rfl,hP,_⟩;refine⟨i,cv ρ' f,b,rfl,?_,hP.fZ hm⟩;split at h
 ·cases ho:adI f with
  |false=>rw[ho] at h;cases h
  |true=>
  rw[ho] at h;obtain rfl:=zq h;exact⟨rfl,fun y hy=>(by cases hy),adH ho⟩
 ·split at h
  case h_2=>cases h
  case h_1 k=>
  split at h
  case h_2=>cases h
  case h_1 g' b1 b2=>
  cases hg:Nat.beq g' 316 with
  |false=>rw[hg] at h;cases h
  |true=>
  rw[hg] at h;obtain rfl:=(beq_iff _ _).1 hg;simp only[cond_true] at h;split at h
  case h_2=>cases h
  case h_1 lo e1 hb1=>
  split at h
  case h_2=>cases h
  case h_1 hi e2 hb2=>
  obtain rfl:=zq h;have r1:w'.heap[ρ'.blk b1]? =some (.cells (aH ρ' [.int .i64 lo]).toArray e1 (0,0)):=hP.rep.rep b1 _ hb1;have r2:w'.heap[ρ'.blk b2]? =some (.cells (aH ρ' [.int .i64 hi]).toArray e2 (0,0)):=hP.rep.rep b2 _ hb2;refine⟨⟨rfl,rfl,ρ'.blk b1,ρ'.blk b2,?_,?_,?_⟩,fun y hy=>?_,by simp only[cv];rfl⟩
  ·simp only[cv,aH]
  ·simp[World.cell?,r1,aH,cv]
  ·simp[World.cell?,r2,aH,cv]
  ·obtain rfl:=zq hy;exact⟨ρ'.blk b1,ρ'.blk b2,e1,e2,by simp only[cv,aH],by simpa only[aH,cv] using r1,by simpa only[aH,cv] using r2⟩
theorem apD:lY [] []:=fun _ _ _ _ _ _=>⟨zz,zz⟩
theorem apC:lY [3,6] [119]:=fun _ _ _ _ _ _=>⟨zz,zz⟩
theorem apB:lY [4,1] []:=fun _ _ _ _ _ _=>⟨zz,zz⟩
theorem apA:lY [3] []:=fun _ _ _ _ _ _=>⟨zz,zz⟩
theorem apz:lY [1] []:=fun _ _ _ _ _ _=>⟨zz,zz⟩
theorem apy:lY [1,6] [110]:=fun _ _ _ _ _ _=>⟨zz,zz⟩
theorem apx:lY [3,3] []:=fun _ _ _ _ _ _=>⟨zz,zz⟩
theorem apw:lY [1,4] []:=fun _ _ _ _ _ _=>⟨zz,zz⟩
theorem apv:lY [10] [101]:=fun _ _ _ _ _ _=>⟨zz,zz⟩
theorem apu:lY [8,10] [101]:=fun _ _ _ _ _ _=>⟨zz,zz⟩
theorem alC:lY [7,3] [119]:=fun _ _ _ _ _ _=>⟨zz,zz⟩
theorem alB:lY [3,7] [119]:=fun _ _ _ _ _ _=>⟨zz,zz⟩
theorem alA:lY [7,1] [119]:=fun _ _ _ _ _ _=>⟨zz,zz⟩
theorem alz:lY [4] []:=fun _ _ _ _ _ _=>⟨zz,zz⟩
theorem aly:lY [4,6] [110]:=fun _ _ _ _ _ _=>⟨zz,zz⟩
theorem alx:lY [1,7] [119]:=fun _ _ _ _ _ _=>⟨zz,zz⟩
theorem alv:lY [1,1] []:=fun _ _ _ _ _ _=>⟨zz,zz⟩
theorem alu:lY [8] []:=fun _ _ _ _ _ _=>⟨zz,zz⟩
theorem als:lY [8,6] [119]:=fun _ _ _ _ _ _=>⟨zz,zz⟩
theorem alr:lY [6] [119]:=fun _ _ _ _ _ _=>⟨zz,zz⟩
theorem alq:lY [6] []:=fun _ _ _ _ _ _=>⟨zz,zz⟩
theorem alp:lY [7,1] [110]:=fun _ _ _ _ _ _=>⟨zz,zz⟩
theorem alo:lY [6] [110]:=fun _ _ _ _ _ _=>⟨zz,zz⟩
theorem aln:lY [1,7] [110]:=fun _ _ _ _ _ _=>⟨zz,zz⟩
theorem alm:lY [4,3] []:=fun _ _ _ _ _ _=>⟨zz,zz⟩
theorem alk:lY [6,1] []:=fun _ _ _ _ _ _=>⟨zz,zz⟩
theorem alj:lY [6,4] []:=fun _ _ _ _ _ _=>⟨zz,zz⟩
theorem ali:lY [9,1] []:=fun _ _ _ _ _ _=>⟨zz,zz⟩
theorem alh:lY [1,9] []:=fun _ _ _ _ _ _=>⟨zz,zz⟩
theorem alg:lY [4,6] []:=fun _ _ _ _ _ _=>⟨zz,zz⟩
theorem alf:lY [2] []:=fun _ _ _ _ _ _=>⟨zz,zz⟩
theorem ale:lY [2,6] [110]:=fun _ _ _ _ _ _=>⟨zz,zz⟩
theorem ald:lY [5] [100]:=fun _ _ _ _ _ _=>⟨zz,zz⟩
theorem alc:lY [5,6] [100,110]:=fun _ _ _ _ _ _=>⟨zz,zz⟩
theorem alb:lY [1,2] []:=fun _ _ _ _ _ _=>⟨zz,zz⟩
theorem ala:lY [1,5] [100]:=fun _ _ _ _ _ _=>⟨zz,zz⟩
theorem ak9:lY [2,1] []:=fun _ _ _ _ _ _=>⟨zz,zz⟩
theorem ak8:lY [2,2] []:=fun _ _ _ _ _ _=>⟨zz,zz⟩
theorem ak7:lY [5,1] [100]:=fun _ _ _ _ _ _=>⟨zz,zz⟩
theorem ak6:lY [6,5] [100]:=fun _ _ _ _ _ _=>⟨zz,zz⟩
theorem ak5:lY [6,5,1] [100]:=fun _ _ _ _ _ _=>⟨zz,zz⟩
def O8:List (List Nat×List Nat):=[([],[]),([3,6],[119]),([4,1],[]),([3],[]),([1],[]),([1,6],[110]),([3,3],[]),([1,4],[]),([10],[101]),([8,10],[101]),([7,3],[119]),([3,7],[119]),([7,1],[119]),([4],[]),([4,6],[110]),([1,7],[119]),([1,1],[]),([8],[]),([8,6],[119]),([6],[119]),([6],[]),([7,1],[110]),([6],[110]),([1,7],[110]),([4,3],[]),([6,1],[]),([6,4],[]),([9,1],[]),([1,9],[]),([4,6],[]),([2],[]),([2,6],[110]),([5],[100]),([5,6],[100,110]),([1,2],[]),([1,5],[100]),([2,1],[]),([2,2],[]),([5,1],[100]),([6,5],[100]),([6,5,1],[100])]
def Xg (a b:List Nat):List (List Nat×List Nat)→Bool
 |[]=>false
 |x::l=>cond (gH a x.1) (cond (gH b x.2) true (Xg a b l)) (Xg a b l)
theorem C8 {a b:List Nat}:∀{l:List (List Nat×List Nat)},Xg a b l=true→(a,b)∈l
 |[],h=>by cases h
 |x::l,h=>by
  unfold Xg at h
  cases h1:gH a x.1 with
  |false=>rw[h1] at h;exact ze _ (C8 h)
  |true=>
   cases h2:gH b x.2 with
   |false=>rw[h1,h2] at h;exact ze _ (C8 h)
   |true=>
    obtain rfl:=bJ h1;obtain rfl:=bJ h2;exact zb
theorem Uf:∀x,x∈O8→lY x.1 x.2:=by
 intro x hx;simp only[O8,List.mem_cons,List.not_mem_nil,or_false] at hx;rcases hx with rfl|rfl|rfl|rfl|rfl|rfl|rfl|rfl|rfl|rfl|rfl|rfl|rfl|rfl|rfl|rfl|rfl|rfl|rfl|rfl|rfl|rfl|rfl|rfl|rfl|rfl|rfl|rfl|rfl|rfl|rfl|rfl|rfl|rfl|rfl|rfl|rfl|rfl|rfl|rfl|rfl
 ·exact apD
 ·exact apC
 ·exact apB
 ·exact apA
 ·exact apz
 ·exact apy
 ·exact apx
 ·exact apw
 ·exact apv
 ·exact apu
 ·exact alC
 ·exact alB
 ·exact alA
 ·exact alz
 ·exact aly
 ·exact alx
 ·exact alv
 ·exact alu
 ·exact als
 ·exact alr
 ·exact alq
 ·exact alp
 ·exact alo
 ·exact aln
 ·exact alm
 ·exact alk
 ·exact alj
 ·exact ali
 ·exact alh
 ·exact alg
 ·exact alf
 ·exact ale
 ·exact ald
 ·exact alc
 ·exact alb
 ·exact ala
 ·exact ak9
 ·exact ak8
 ·exact ak7
 ·exact ak6
 ·exact ak5
def afL (_p _o:Nat)(d:bL):Bool:=match d.1 with
 |1=>Xg (bZ d.2.2.2.2) d.2.2.1 O8
 |_=>true
theorem Uc:allT afL 0 DF=true:=by kernel_rfl
theorem ak4 {p o:Nat}{d:bL}(hd:jd p o=some d)(hk:d.1=1):lY (bZ d.2.2.2.2) d.2.2.1:=by
 have h:=dL Uc hd;unfold afL at h;rw[hk] at h;exact Uf (bZ d.2.2.2.2,d.2.2.1) (C8 h)
theorem IX {w0 w:World}(hG:eT w0)(hb0:Below w0.heap.size w0 w){p o:Nat}{d:bL}(hd:jd p o=some d)(hk:d.1=1){A:Option Addr}{c:Nat}(hA:gF w0.heap.size w A c (lN d)):
 (Calls Tryz.prog 187 #[enV p o d A c] w fun e w'=>∃idx f there,e= .returned (.tuple #[.agg #[.int .i64 idx,f],.bool there])∧(jN w' (uI (bZ d.2.2.2.2) d.2.2.1) idx f there∧KT w' (uI (bZ d.2.2.2.2) d.2.2.1) f∧f.oneCell'=true)∧Below w.heap.size w w')∧
 (Calls Tryz.prog 188 #[enV p o d A c] w fun e w'=>∃idx f there,e= .returned (.tuple #[.agg #[.int .i64 idx,f],.bool there])∧(jN w' (JH (bZ d.2.2.2.2) d.2.2.1) idx f there∧KT w' (JH (bZ d.2.2.2.2) d.2.2.1) f∧f.oneCell'=true)∧Below w.heap.size w w'):=by
 obtain⟨rs,ns,h1,h2⟩:=aaZ d.2.2.2.2 0 ((beq_iff _ _).1 (dL Zu hd));obtain⟨v1,v2⟩:=ak4 hd hk (p:Int) (o:Int) (ag d.2.1) d.2.2.2.1 rs ns;have c1:=Gj hG hb0 (A:=A) (c:=c) (by rw[h1];exact hA) v1
 have c2:=Gj hG hb0 (A:=A) (c:=c) (by rw[h1];exact hA) v2
 rw[h2] at c1 c2;exact⟨c1,c2⟩
end Ex
section
open Go.RowKit
def NC (o:aG):Bool:=(o.1 == 2) || ((decide (3≤o.1) && decide (o.1≤5)) && ((o.2.1 == 5) || (o.2.1 == 6)))
def aje (l:List aG):Int:=if l.any NC then 3 else 0
def aiI (l:List aG):Int:=if l.any NC then 6 else 2
end
namespace Ex
open Go.RowKit
def jQ:List (List Nat):=[[],[100],[100,110],[101],[110],[119]]
def aX:List Nat:=[100,101,110,119]
def gJ (c:Nat):Int×Int:=cond (Nat.ble c 101) (.negSucc 127,.ofNat 127) (cond (Nat.beq c 110) (.ofNat 0,.ofNat 255) (.ofNat 0,.ofNat 65535))
end Ex
section
open Go.RowKit Ex
def isNum (o:aG):Bool:=(o.1 == 6) || (o.1 == 7)
def Nc (ex:List Nat)(o:aG)(rest:List aG):Nat:=
 if (o.1 == 5) && fG 100 ex then 100 else if (o.1 == 10) && fG 101 ex then 101 else if !(isNum o) then 0 else if rest.any isNum then 0 else if fG 110 ex then 110 else if fG 119 ex then 119 else 0
def bP (ex:List Nat)(l:List aG)(k:Nat):Nat:=match l[k]? with
 |none=>0
 |some o=>Nc ex o (l.drop (k+1))
end
section
open Go.RowKit
theorem Bl {P:Program}{o:Oper}{a:Act}{w:World}{K:Act→World→Prop}{Q:Exit→Act→World→Prop}(ty:TypeId)(x y:Operand)(ho:o.op= .store ty x y)
 (g off:Nat) (cells:List Value) (hx:a.eval x= .pointer (some ⟨g,off,none⟩)) (hy:a.eval y= .agg cells.toArray)
 (t:TypeId) (old:List Value) (hg:Bk w g t old) (hi:(P.info? ty).map (·.size)=some cells.length) (hl:off+cells.length≤old.length) (h1:∀v∈cells,v.oneCell'=true)
 (h:∀w',Bk w' g t (old.take off++cells++old.drop (off+cells.length))→w.grownBy w' (some g)→K (a.put o.dst undef) w'):o.wp P a w K Q:=by
 have hst:=run_storeCells_at P g off t cells 0 old.toArray w hg (by simpa using hl) h1
 rw[Nat.add_zero] at hst
 have hsv:(storeVar ty ⟨g,off,none⟩ (.agg cells.toArray)).run P w= .ok () (w.setRow g (old.take off++cells++old.drop (off+cells.length)).toArray):=by
  cases hq:P.info? ty with
  |none=>simp[hq] at hi
  |some i=>
   have hs:cells.length=i.size:=by simp[hq] at hi;omega
   simp[storeVar,sizeOf,typeInfo,hq,Value.cells,hs] at hst ⊢;exact hst
 unfold Oper.wp execOp;simp only[ho,hx,hy,Instr.storeAt,Instr.sureAddr,Sem.run_bind,Sem.run_pure,Result.andThen_ok,hsv];exact h _ (setRow_heap w g _ _ t (0,0) hg) ⟨rfl,rfl,rfl,zw,fun k hk hkg=>setRow_other w g k _ fun e=>hkg (by rw[e])⟩
theorem aN {P:Program}{ops:Array Oper}{rest:List Oper}{o:Oper}{a:Act}{w:World}{Q:Exit→Act→World→Prop}(hgd:o.guard=none)(ty:TypeId)(x y:Operand)(ho:o.op= .store ty x y)
 (g off:Nat) (cells:List Value) (hx:a.eval x= .pointer (some ⟨g,off,none⟩)) (hy:a.eval y= .agg cells.toArray)
 (t:TypeId) (old:List Value) (hg:Bk w g t old) (hi:(P.info? ty).map (·.size)=some cells.length) (hl:off+cells.length≤old.length) (h1:∀v∈cells,v.oneCell'=true)
 (h:∀w',Bk w' g t (old.take off++cells++old.drop (off+cells.length))→w.grownBy w' (some g)→wpList P ops Q rest (a.put o.dst undef) w'):wpList P ops Q (o::rest) a w:=
 wpList_plain hgd fun _ hK=>Bl ty x y ho g off cells hx hy t old hg hi hl h1 fun w' h2 h3=>hK _ _ (h w' h2 h3)
theorem ic {P:Program}{ops:Array Oper}{o:Oper}{a:Act}{w:World}{K:Act→World→Prop}{Q:Exit→Act→World→Prop}{F:Prop}(hgd:o.guard=none)(ty:TypeId)(x y:Operand)(ho:o.op= .store ty x y)
 (g off:Nat) (cells:List Value) (hx:a.eval x= .pointer (some ⟨g,off,none⟩)) (hy:a.eval y= .agg cells.toArray)
 (t:TypeId) (old:List Value) (hg:Bk w g t old) (hi:(P.info? ty).map (·.size)=some cells.length) (hl:off+cells.length≤old.length) (h1:∀v∈cells,v.oneCell'=true)
 (h:∀w',Bk w' g t (old.take off++cells++old.drop (off+cells.length))→w.grownBy w' (some g)→K (a.put o.dst undef) w'):
 if Region.wanted o (yielded ops a.tmps)=true then Oper.wp P o a w K Q else F:=by
 have hw:Region.wanted o (yielded ops a.tmps)=true:=by simp[Region.wanted,hgd]
 rw[zW hw];exact Bl ty x y ho g off cells hx hy t old hg hi hl h1 h
theorem UI (a b c:Value)(w:World):CallsD Tryz.prog 407 #[a,b,c] .returning w fun e u' w'=>e= .returned (.tuple #[])∧u'= .returning∧w'=w:=by
 refine callsD_of_wpS Tryz.func407 rfl fun c₀ cs hu=>?_
 apply wpS_seq;apply wpS_region;simp[wpOpsS,go_sem,recoverD,hu,Tryz.ntmps407,Exit.thenS];have HU:=zo hu;refine wpS_of_wp ?_
 have HQ:Hid (∀a',a'.defers=[]→bodyPostS Tryz.prog Tryz.f407 c₀ cs (fun e u' w'=>e=Ending.returned (Value.tuple #[])∧u'=FrameMode.returning∧w'=w) .normal a' (c₀::cs) w):=zo fun a' h=>by
  refine⟨h,.returning,?_,?_⟩
  ·cases c₀
   simp_all
  ·simp[results,Tryz.results407]
 generalize (bodyPostS Tryz.prog Tryz.f407 c₀ cs fun e u' w'=>e=Ending.returned (Value.tuple #[])∧u'=FrameMode.returning∧w'=w)=Q at HQ ⊢
 clear hu HU;go_wp2;exact HQ.out _ rfl
theorem oL (i:Nat){P:Program}{md:Region.Mode}{ops:Array Oper}{Q:Exit→Act→World→Prop}{S:World→Prop}{oi:Oper}{v:Value}{fuel:Nat}{L:Array Bool}{a:Act}{w:World}(hr:∀w,S w→(execOp a.eval oi).run P w= .ok (.value v) w)(h:wpAnyH P md ops Q S fuel (L.setIfInBounds i true) (a.put oi.dst v) w)(h1:ops[i]? =some oi:=by rfl)(h2:Region.noSelect ops=true:=by kernel_rfl)(h3:Region.free md ops L i=true:=by kernel_rfl)(h4:(Region.ready md ops L).contains i=true:=by kernel_rfl)(h5:∀c a w,Q (.panic c) (a.put oi.dst v) w→Q (.panic c) a w:=by exact fun _ _ _ h=>h)(h6:Region.wanted oi (yielded ops a.tmps)=true:=by rfl)(hS:S w:=by assumption):wpAnyH P md ops Q S (fuel+1) L a w:=wpAnyH_take h1 h2 h3 h4 h5 (.inl ⟨h6,hr⟩) hS h
def aic (md:Region.Mode)(ops:Array Oper)(ts:Array Value):Array Bool→List Nat→Bool
 |_,[]=>true
 |L,i::is=>match ops[i]? with
  |none=>false
  |some o=>Region.free md ops L i && ((Region.ready md ops L).contains i && (!(Region.wanted o (yielded ops ts)) && aic md ops ts (L.setIfInBounds i true) is))
def aib (ops:Array Oper)(a:Act):List Nat→Prop
 |[]=>True
 |i::is=>(match ops[i]? with
  |some o=>a.put o.dst undef=a
  |none=>True)∧aib ops a is
def amf:Array Bool→List Nat→Array Bool
 |L,[]=>L
 |L,i::is=>amf (L.setIfInBounds i true) is
theorem ap5 {P:Program}{md:Region.Mode}{ops:Array Oper}{Q:Exit→Act→World→Prop}{S:World→Prop}{a:Act}{w:World}(hs:Region.noSelect ops=true)(hQ:∀c (a:Act) d w,Q (.panic c) (a.put d undef) w→Q (.panic c) a w)(hS:S w):∀(is:List Nat) {L:Array Bool} (fuel:Nat) {n:Nat},n=fuel+is.length→aic md ops a.tmps L is=true→aib ops a is→wpAnyH P md ops Q S fuel (amf L is) a w→wpAnyH P md ops Q S n L a w
 |[],L,fuel,n,hn,_,_,h=>by
  subst hn;exact h
 |i::is,L,fuel,n,hn,hb,ha,h=>by
  unfold aic at hb;unfold aib at ha
  cases ho:ops[i]? with
  |none=>rw[ho] at hb;cases hb
  |some o=>
   rw[ho] at hb ha;simp only[Bool.and_eq_true,Bool.not_eq_true'] at hb ha;subst hn;rw[yw,← wz];refine wpAnyH_take ho hs hb.1 hb.2.1 (fun c a' w h=>hQ c a' _ w h) (.inr ⟨hb.2.2.1,rfl⟩) hS ?_
   rw[ha.1];exact ap5 hs hQ hS is fuel rfl hb.2.2.2 ha.2 h
end
section
open Go.RowKit Ex
abbrev YZ:List PanicEntry:=[{ v:=.iface 511 (.agg #[]),recovered:=true}]
def ab1 (N:Nat)(V:List Value)(bo bp bx:Nat)(w w':World):Prop:=∃A' c',Bk w' bo 30 [.int .i64 4,.slice A' N c',.string ⟨#[]⟩,.slice none 0 0,.bool false]∧Bk w' bp 471 [.pointer (some ⟨bx,0,none⟩)]∧Rd w' (fun i=>w.heap.size≤i) A' V∧w.grownBy w' (some bo)
theorem PW (bp b0 bo bx:Nat)(A:Option Addr)(N c at':Nat)(pv e0 e1 e2 e3 e4 e5:Value)(d n:Int)(V:List Value)(w:World)(q:Nat→Prop)(hx:Bk w bx 510 (dW A N c at' pv e0 e1 e2 e3 e4 e5 d n))(hp:Bk w bp 471 [.pointer (some ⟨bx,0,none⟩)])(h0:Bk w b0 22 [.slice A N c])(ho:Bk w bo 30 [.int .i64 0,.slice none 0 0,.string ⟨#[]⟩,.slice none 0 0,.bool false])(hr:Rd w q A V)(h1:∀u∈V,u.oneCell'=true)(hN:V.length=N)(hN1:1≤N)(hm:(N:Int)≤1000)(hc:N≤c)(hne:bp≠bo):
 CallsD Tryz.prog 407 #[.pointer (some ⟨bp,0,none⟩),.pointer (some ⟨b0,0,none⟩),.pointer (some ⟨bo,0,none⟩)] (.panicking DV) w fun e u' w'=>e= .returned (.tuple #[])∧u'= .panicking YZ∧ab1 N V bo bp bx w w':=by
 refine callsD_of_wpS Tryz.func407 rfl fun c₀ cs hu=>?_
 apply wpS_seq;apply wpS_region;simp[wpOpsS,go_sem,recoverD,hu,Tryz.ntmps407,Exit.thenS];refine wpS_of_wp ?_
 have HQ:Hid (∀a' w',a'.defers=[]→ab1 N V bo bp bx w w'→bodyPostS Tryz.prog Tryz.f407 c₀ cs (fun e u' w'=>e=Ending.returned (Value.tuple #[])∧u'=FrameMode.panicking YZ∧ab1 N V bo bp bx w w') .normal a' ({ c₀ with mode:=.panicking YZ}::cs) w'):=zo fun a' w' h hh=>by
  refine⟨h,.panicking YZ,rfl,?_⟩
  simpa [results,Tryz.results407] using hh
 have CR:Hid (∀W,Bk W bx 510 (dW A N c at' pv e0 e1 e2 e3 e4 e5 d n)→Rd W (fun _=>True) A V→Calls Tryz.prog 408 #[.pointer (some ⟨bx,0,none⟩),.int .i64 (N:Int)] W fun e w'=>∃A' c',e= .returned (.slice A' N c')∧w'.ownsRow W.heap.size 5 1 (.slice A' N c') N (V.take N)∧Below W.heap.size W w'):=fun W hb hr=>Jp bx A N c N at' pv e0 e1 e2 e3 e4 e5 d n V W _ hb hr h1 hN hm hN1 (zn _) hc
 have hal:=(zh w.heap.size w).alloc (zn _) (.cells #[] 511);have KP:Hid (Bk ((w.alloc (.cells #[] 511)).drew) bp 471 [.pointer (some ⟨bx,0,none⟩)]):=hp.after (aL hal);have K0:Hid (Bk ((w.alloc (.cells #[] 511)).drew) b0 22 [.slice A N c]):=h0.after (aL hal);have KO:Hid (Bk ((w.alloc (.cells #[] 511)).drew) bo 30 [.int .i64 0,.slice none 0 0,.string ⟨#[]⟩,.slice none 0 0,.bool false]):=ho.after (aL hal);have HB:Hid (Below w.heap.size w ((w.alloc (.cells #[] 511)).drew)):=aL hal;have CRx:=zo (CR.out ((w.alloc (.cells #[] 511)).drew) (hx.after (aL hal)) ((hr.mono fun _ _ _=>trivial).after (aL hal)))
 have HLo:=zo ho.lt;have HT:Hid (V.take N=V):=zo (by rw[← hN];exact yH)
 generalize (bodyPostS Tryz.prog Tryz.f407 c₀ cs (fun e u' w'=>e=Ending.returned (Value.tuple #[])∧u'=FrameMode.panicking YZ∧ab1 N V bo bp bx w w'))=Q at HQ ⊢
 have hta:∀W,(Instr.typeAssert (Value.iface 511 (.agg #[])) 20 511 true).run Tryz.prog W= .ok (.tuple #[.agg #[],.bool true]) W:=fun W=>by kernel_rfl
 clear hu hx hp h0 ho hr h1 hN hm hc CR hal;simp only[Array.replicate_succ,Array.replicate_zero,List.push_toArray,List.nil_append,List.cons_append,List.append_toArray,List.setIfInBounds_toArray,List.set_cons_zero,List.set_cons_succ];go_upto_region 7 with fail
 refine wp_region_noPanic ?_;refine wp_region_held_drew (S:=fun w'=>w'.cell? ⟨bp,0,none⟩=some (.pointer (some ⟨bx,0,none⟩))∧w'.cell? ⟨b0,0,none⟩=some (.slice A N c)) zz ⟨KP.cell 0 rfl,K0.cell 0 rfl⟩ (fun hHeld=>?_)
 refine oL 0 (oi:=_) (v:=?_) ?_ ?_;rotate_left;focus ((intro w hSw;(try dsimp only at hSw);go_simp)<;>with_reducible rfl)
 refine oL 1 (oi:=_) (v:=?_) ?_ ?_;rotate_left;focus ((intro w hSw;(try dsimp only at hSw);go_simp)<;>with_reducible rfl)
 refine oL 2 (oi:=_) (v:=?_) ?_ ?_;rotate_left;focus ((intro w hSw;(try dsimp only at hSw);go_simp)<;>with_reducible rfl)
 refine oL 3 (oi:=_) (v:=?_) ?_ ?_;rotate_left;focus ((intro w hSw;(try dsimp only at hSw);go_simp)<;>with_reducible rfl)
 refine oL 4 (oi:=_) (v:=?_) ?_ ?_;rotate_left;focus ((intro w hSw;(try dsimp only at hSw);go_simp)<;>with_reducible rfl)
 refine wpAnyH_ready (rs:=[5]) zz zw ?_;refine AllReadyH.cons (o:=_) rfl (fun K hK=>?_) AllReadyH.nil
 go_simp;go_at_call 408;refine CRx.mono ?_;rintro e w1 ⟨A1,c1,rfl,ho1,hb1⟩;rw[HT.out] at ho1;have P1:=zo (KP.after hb1);have Z1:=zo (K0.after hb1);have O1:=zo (KO.after hb1);have R1:=zo ho1;have B1:=zo (HB.trans (hb1.mono HB.size));refine hK.out _ _ ⟨P1.cell 0 rfl,Z1.cell 0 rfl⟩ (fun lU=>?_)
 clear hK K hHeld ho1 hb1 CRx
 try simp only[Act.put,List.setIfInBounds_toArray,List.set_cons_zero,List.set_cons_succ]
 refine oL 6 (oi:=_) (v:=?_) ?_ ?_;rotate_left;focus ((intro w hSw;(try dsimp only at hSw);go_simp)<;>with_reducible rfl)
 refine wpAnyH_ready (rs:=[7]) zz zw ?_;refine AllReadyH.cons (o:=_) rfl (fun K hK=>?_) AllReadyH.nil
 refine ic (o:=_) rfl 30 (.tmp 2) (.tmp 18) rfl bo 0 [.int .i64 4,.slice A1 N c1,.string ⟨#[]⟩,.slice none 0 0,.bool false] rfl rfl 30 _ O1.out rfl zw (by simp[Value.oneCell']) ?_
 intro w2 hk2 hg2;have P2:Hid (Bk w2 bp 471 [.pointer (some ⟨bx,0,none⟩)]):=zo ((hg2.block bp P1.lt fun e=>hne (zq e)).trans P1.out)
 have aqY:b0≠bo:=fun e=>by
  have h1:=Z1.out;have h2:=O1.out;rw[e] at h1;have h3:=zq ((show w1.heap[bo]? =_ from h2).symm.trans (show w1.heap[bo]? =_ from h1))
  injection h3 with _ h4
  exact absurd h4 zx
 have Z2:Hid (Bk w2 b0 22 [.slice A N c]):=zo ((hg2.block b0 Z1.lt fun e=>aqY (zq e)).trans Z1.out)
 have HF:Hid (ab1 N V bo bp bx w w2):=zo ⟨A1,c1,hk2,P2.out,((Rd.jf (p:=fun i=>w.heap.size+1≤i) R1.out fun i h1 _=>by have h2:(w.alloc (.cells #[] 511)).heap.size≤i:=h1;simpa using h2).keep fun i _ h2=>hg2.block i (by assumption) fun e=>by have h3:=HLo.out;have h4:i=bo:=zq e;omega).mono fun i _ h=>zy,⟨hg2.os.trans B1.os,hg2.tape.trans B1.tape,hg2.output.trans B1.output,zV B1.size hg2.size,fun k hk hne=>(hg2.block k (zZ hk B1.size) hne).trans (B1.block k hk)⟩⟩
 refine hK.out _ _ ⟨P2.cell 0 rfl,Z2.cell 0 rfl⟩ (fun rW=>?_)
 clear hK K lU rW hk2 hg2;refine wpAnyH_done zz ?_ _;refine NoPanic.normal ?_
 try simp only[Act.put]
 go_wp2;exact HQ.out _ _ rfl HF.out
abbrev Qs (k m n:Nat)(s:ByteArray)(al:Bool)(A:Option Addr)(c:Nat)(A2:Option Addr)(c2:Nat):Value:=.agg #[.int .i64 (k:Int),.slice A m c,.string s,.slice A2 n c2,.bool al]
def akm (B:Nat)(w:World)(V:List Value)(m:Nat)(l:List aG)(A A2:Option Addr):Prop:=Rd w (fun i=>B≤i) A (V.take m)∧Rd w (fun i=>B≤i) A2 (dD l)
def arL (k m:Nat)(s:ByteArray)(l:List aG)(al:Bool)(V:List Value)(A:Option Addr)(N c bx:Nat)(w:World)(e:Ending)(w':World):Prop:=
 (∃A' c' OP c'',e= .returned (Qs k m l.length s al A' c' OP c'')∧akm w.heap.size w' V m l A' OP∧w.grownBy w' (some bx))∨(k=4∧m=N∧s=⟨#[]⟩∧l=[]∧al=false∧e= .panicked DV∧Cg w w' bx A N c)
def abR (k m:Nat)(s:ByteArray)(l:List aG)(al:Bool)(V:List Value)(A:Option Addr)(N c:Nat)(w:World):Prop:=
 ∀W bx,Bk W bx 510 (dW A N c 0 (.slice none 0 0) (.int .i64 0) (.int .u8 0) (.string ⟨#[]⟩) (.slice none 0 0) (.string ⟨#[]⟩) (.bool false) 0 0)→w.heap.size≤bx→Below w.heap.size w W→Calls Tryz.prog 409 #[.pointer (some ⟨bx,0,none⟩)] W fun e w'=>arL k m s l al V A N c bx W e w'
def an3 (k m:Nat)(s:ByteArray)(l:List aG)(al:Bool)(V:List Value)(w:World)(e:Ending)(w':World):Prop:=∃A' c' OP c'' x,e= .returned (.tuple #[Qs k m l.length s al A' c' OP c'',x])∧akm w.heap.size w' V m l A' OP∧Below w.heap.size w w'
def WG (Q:Exit→Act→World→Prop)(D:List Deferred)(v2 v3:Value)(S:World→Prop):Exit→Act→World→Prop
 | .panic c,a,w=>c=DV∧a.defers=D∧a.tmps[2]? =some v2∧a.tmps[3]? =some v3∧S w
 |e,a,w=>Q e a w
theorem WG.normal {Q:Exit→Act→World→Prop}{D:List Deferred}{v2 v3:Value}{S:World→Prop}{a:Act}{w:World}(h:Q .normal a w):WG Q D v2 v3 S .normal a w:=h
theorem Mv {a:Act}{i j:Nat}{v0 v:Value}(hj:j≠i)(h:(a.put (some j) v0).tmps[i]? =some v):a.tmps[i]? =some v:=by
 simp only[Act.put,Array.getElem?_setIfInBounds,if_neg hj] at h;exact h
theorem MC {Q:Exit→Act→World→Prop}{D:List Deferred}{v2 v3 v:Value}{S:World→Prop}{j:Nat}(h2:j≠2)(h3:j≠3){c:List PanicEntry}{a:Act}{w:World}(h:WG Q D v2 v3 S (.panic c) (a.put (some j) v) w):WG Q D v2 v3 S (.panic c) a w:=
 ⟨h.1,h.2.1,Mv h2 h.2.2.1,Mv h3 h.2.2.2.1,h.2.2.2.2⟩
theorem FK {P:Program}{id:Nat}{ops:Array Oper}{b:Bool}{Q:Exit→Act→World→Prop}{a0:Act}{w:World}(v2 v3:Value)(S:World→Prop)(h:(Code.region id ops b).wp P (WG Q a0.defers v2 v3 S) a0 w)(hp:∀a w,a.defers=a0.defers→a.tmps[2]? =some v2→a.tmps[3]? =some v3→S w→Q (.panic DV) a w):(Code.region id ops b).wp P Q a0 w:=
 Code.wp_mono (fun e a w h=>by
  cases e
  case panic c=>
   obtain⟨rfl,h1,h2,h3,h4⟩:=h;exact hp a w h1 h2 h3 h4
  all_goals exact h) h
theorem Ye {w:World}{k m:Nat}{s:ByteArray}{l:List aG}{al:Bool}{V:List Value}{A:Option Addr}{N c:Nat}(CI:Hid (abR k m s l al V A N c w))(h1:∀u∈V,u.oneCell'=true)(hN:V.length=N)(hN1:1≤N)(hm:(N:Int)≤1000)(hc:N≤c)(q:Nat→Prop)(hr:Rd w q A V):
 Calls Tryz.prog 356 #[.slice A N c] w fun e w'=>an3 k m s l al V w e w':=by
 have h0:¬((N:Int)=0):=zy;have hb0:((N:Int) == 0)=false:=by simpa using h0
 have hmf:∀(fn:Fn) (first cap:Array Value) (w:World),(Instr.makeFunc fn first cap).run Tryz.prog w= .ok (.func fn first cap) w:=fun _ _ _ _=>rfl
 have HR:=zo hr;have HV:=zo (zM h1 (zM hN (zM hN1 (zM hm hc))));clear hN hc hr h1 hN1 hm;have HB0:Hid (Below w.heap.size w ((((w.alloc (.cells #[.slice A N c] 22)).alloc (.cells #[.int .i64 0,.slice none 0 0,.string ⟨#[]⟩,.slice none 0 0,.bool false] 30)).alloc (.cells #[.pointer (some ⟨w.heap.size+1+1+1,0,none⟩)] 471)).alloc (.cells #[.slice A N c,.int .i64 0,.slice none 0 0,.int .i64 0,.int .u8 0,.string ⟨#[]⟩,.slice none 0 0,.string ⟨#[]⟩,.bool false,.int .i64 0,.int .i64 0] 510))):=zo ((((zh _ _).alloc (zn _) _).alloc zw _).alloc zu _ |>.alloc zu _)
 have KO:Hid (Bk ((((w.alloc (.cells #[.slice A N c] 22)).alloc (.cells #[.int .i64 0,.slice none 0 0,.string ⟨#[]⟩,.slice none 0 0,.bool false] 30)).alloc (.cells #[.pointer (some ⟨w.heap.size+1+1+1,0,none⟩)] 471)).alloc (.cells #[.slice A N c,.int .i64 0,.slice none 0 0,.int .i64 0,.int .u8 0,.string ⟨#[]⟩,.slice none 0 0,.string ⟨#[]⟩,.bool false,.int .i64 0,.int .i64 0] 510)) (w.heap.size+1) 30 [.int .i64 0,.slice none 0 0,.string ⟨#[]⟩,.slice none 0 0,.bool false]):=zo (by
  have:=((Bk.new (w.alloc (.cells #[.slice A N c] 22)) 30 [.int .i64 0,.slice none 0 0,.string ⟨#[]⟩,.slice none 0 0,.bool false]).alloc (.cells #[.pointer (some ⟨w.heap.size+1+1+1,0,none⟩)] 471)).alloc (.cells #[.slice A N c,.int .i64 0,.slice none 0 0,.int .i64 0,.int .u8 0,.string ⟨#[]⟩,.slice none 0 0,.string ⟨#[]⟩,.bool false,.int .i64 0,.int .i64 0] 510);rwa [zU] at this)
 have KX:Hid (Bk ((((w.alloc (.cells #[.slice A N c] 22)).alloc (.cells #[.int .i64 0,.slice none 0 0,.string ⟨#[]⟩,.slice none 0 0,.bool false] 30)).alloc (.cells #[.pointer (some ⟨w.heap.size+1+1+1,0,none⟩)] 471)).alloc (.cells #[.slice A N c,.int .i64 0,.slice none 0 0,.int .i64 0,.int .u8 0,.string ⟨#[]⟩,.slice none 0 0,.string ⟨#[]⟩,.bool false,.int .i64 0,.int .i64 0] 510)) (w.heap.size+1+1) 471 [.pointer (some ⟨w.heap.size+1+1+1,0,none⟩)]):=zo (by
  have:=(Bk.new ((w.alloc (.cells #[.slice A N c] 22)).alloc (.cells #[.int .i64 0,.slice none 0 0,.string ⟨#[]⟩,.slice none 0 0,.bool false] 30)) 471 [.pointer (some ⟨w.heap.size+1+1+1,0,none⟩)]).alloc (.cells #[.slice A N c,.int .i64 0,.slice none 0 0,.int .i64 0,.int .u8 0,.string ⟨#[]⟩,.slice none 0 0,.string ⟨#[]⟩,.bool false,.int .i64 0,.int .i64 0] 510);rwa [zU,zU] at this)
 have KD:Hid (Bk ((((w.alloc (.cells #[.slice A N c] 22)).alloc (.cells #[.int .i64 0,.slice none 0 0,.string ⟨#[]⟩,.slice none 0 0,.bool false] 30)).alloc (.cells #[.pointer (some ⟨w.heap.size+1+1+1,0,none⟩)] 471)).alloc (.cells #[.slice A N c,.int .i64 0,.slice none 0 0,.int .i64 0,.int .u8 0,.string ⟨#[]⟩,.slice none 0 0,.string ⟨#[]⟩,.bool false,.int .i64 0,.int .i64 0] 510)) (w.heap.size+1+1+1) 510 (dW A N c 0 (.slice none 0 0) (.int .i64 0) (.int .u8 0) (.string ⟨#[]⟩) (.slice none 0 0) (.string ⟨#[]⟩) (.bool false) 0 0)):=zo (by
  have:=Bk.new (((w.alloc (.cells #[.slice A N c] 22)).alloc (.cells #[.int .i64 0,.slice none 0 0,.string ⟨#[]⟩,.slice none 0 0,.bool false] 30)).alloc (.cells #[.pointer (some ⟨w.heap.size+1+1+1,0,none⟩)] 471)) 510 (dW A N c 0 (.slice none 0 0) (.int .i64 0) (.int .u8 0) (.string ⟨#[]⟩) (.slice none 0 0) (.string ⟨#[]⟩) (.bool false) 0 0);rwa [zU,zU,zU] at this)
 have KB:Hid (Bk ((((w.alloc (.cells #[.slice A N c] 22)).alloc (.cells #[.int .i64 0,.slice none 0 0,.string ⟨#[]⟩,.slice none 0 0,.bool false] 30)).alloc (.cells #[.pointer (some ⟨w.heap.size+1+1+1,0,none⟩)] 471)).alloc (.cells #[.slice A N c,.int .i64 0,.slice none 0 0,.int .i64 0,.int .u8 0,.string ⟨#[]⟩,.slice none 0 0,.string ⟨#[]⟩,.bool false,.int .i64 0,.int .i64 0] 510)) w.heap.size 22 [.slice A N c]):=zo ((((Bk.new w 22 [.slice A N c]).alloc _).alloc _).alloc _)
 go_enter_defers Tryz.func356,Tryz.ntmps356
 go_upto_region 5 with fail
 generalize ((((w.alloc (.cells #[.slice A N c] 22)).alloc (.cells #[.int .i64 0,.slice none 0 0,.string ⟨#[]⟩,.slice none 0 0,.bool false] 30)).alloc (.cells #[.pointer (some ⟨w.heap.size+1+1+1,0,none⟩)] 471)).alloc (.cells #[.slice A N c,.int .i64 0,.slice none 0 0,.int .i64 0,.int .u8 0,.string ⟨#[]⟩,.slice none 0 0,.string ⟨#[]⟩,.bool false,.int .i64 0,.int .i64 0] 510))=W0 at HB0 KO KX KD KB ⊢;obtain⟨bo,Es⟩:∃b,w.heap.size+1=b:=⟨_,rfl⟩;obtain⟨bp,hbp⟩:∃b,bo+1=b:=⟨_,rfl⟩;obtain⟨bd,hbd⟩:∃b,bp+1=b:=⟨_,rfl⟩;rw[Es] at KO KX KD ⊢;rw[hbp] at KX KD ⊢;rw[hbd] at KX KD ⊢;have HN:=zo (show w.heap.size < bo∧bo < bp∧bp < bd by omega)
 clear Es hbp hbd;have OO:=zo (aL HB0.out);have KOd:Hid (Bk W0.drew bo 30 [.int .i64 0,.slice none 0 0,.string ⟨#[]⟩,.slice none 0 0,.bool false]):=KO.out;have KXd:Hid (Bk W0.drew bp 471 [.pointer (some ⟨bd,0,none⟩)]):=KX.out;have KBd:Hid (Bk W0.drew w.heap.size 22 [.slice A N c]):=KB.out;have HRd:=zo (show Rd W0.drew (fun i=>i < w.heap.size) A V from (HR.mono (q:=fun i=>i < w.heap.size) fun i hi _=>hi).below OO.out fun i _ hi=>hi)
 have CIx:=zo (CI.out W0.drew bd (show Bk W0.drew bd _ _ from KD.out) (by have:=HN.out;omega) OO.out)
 clear CI KD KO KX KB HB0 hb0;refine FK (.pointer (some ⟨bo,0,none⟩)) (.pointer (some ⟨bp,0,none⟩)) (fun w'=>(k=4∧m=N∧s=⟨#[]⟩∧l=[]∧al=false)∧Cg W0.drew w' bd A N c) ?_ (fun a w9 hD h2 h3 hS=>?_)
 refine wp_region_held_drew (S:=fun w'=>w'.cell? ⟨bp,0,none⟩=some (.pointer (some ⟨bd,0,none⟩))) zz (KXd.cell 0 rfl) (fun hHeld=>?_)
 refine wpAnyH_take (i:=0) (oi:={ dst:=some 14,op:=.load 471 (.tmp 3),type:=471,pos:= "decode.go:109",after:=#[],guard:=none}) (v:=?_) rfl zz zz zz (fun _ _ _ h=>MC zx zx h) (Or.inl ⟨by rfl,?_⟩) (by assumption) ?_
 rotate_left
 ·(intro w hSw;(try dsimp only at hSw);go_simp)<;>with_reducible rfl
 try simp only[Act.put,List.setIfInBounds_toArray,List.set_cons_zero,List.set_cons_succ]
 refine wpAnyH_take (i:=2) (oi:={ dst:=some 16,op:=.load 471 (.tmp 3),type:=471,pos:= "decode.go:109",after:=#[],guard:=none}) (v:=?_) rfl zz zz zz (fun _ _ _ h=>MC zx zx h) (Or.inl ⟨by rfl,?_⟩) (by assumption) ?_
 rotate_left
 ·(intro w hSw;(try dsimp only at hSw);go_simp)<;>with_reducible rfl
 try simp only[Act.put,List.setIfInBounds_toArray,List.set_cons_zero,List.set_cons_succ]
 refine wpAnyH_ready (rs:=[1]) zz zw ?_;refine AllReadyH.cons (o:=_) rfl (fun K hK=>?_) AllReadyH.nil
 go_simp;go_at_call 409;refine CIx.mono ?_;rintro e w1 (⟨A1,c1,A2,c2,rfl,⟨hr1,hr2⟩,hg⟩|⟨q1,q2,q3,q4,q5,rfl,hD⟩)
 case inr=>exact⟨rfl,rfl,rfl,rfl,⟨q1,q2,q3,q4,q5⟩,hD⟩
 have KO1:Hid (Bk w1 bo 30 [.int .i64 0,.slice none 0 0,.string ⟨#[]⟩,.slice none 0 0,.bool false]):=zo ((hg.block bo KOd.lt fun e=>by have h1:=HN.out;have h2:bo=bd:=zq e;omega).trans KOd.out)
 have KX1:Hid (Bk w1 bp 471 [.pointer (some ⟨bd,0,none⟩)]):=zo ((hg.block bp KXd.lt fun e=>by have h1:=HN.out;have h2:bp=bd:=zq e;omega).trans KXd.out)
 have HB1:=zo (OO.grown hg OO.size fun k e=>by have h1:=HN.out;have h2:bd=k:=zq e;omega)
 have HR1:=zo (zM hr1 hr2);refine hK.out _ _ (KX1.cell 0 rfl) (fun lU=>?_)
 clear hK K hHeld hr1 hr2 hg
 try simp only[Act.put,List.setIfInBounds_toArray,List.set_cons_zero,List.set_cons_succ]
 refine wpAnyH_ready (rs:=[3]) zz zw ?_;refine AllReadyH.cons (o:=_) rfl (fun K hK=>?_) AllReadyH.nil
 refine ic (o:=_) rfl 30 (.tmp 2) (.tmp 15) rfl bo 0 [.int .i64 (k:Int),.slice A1 m c1,.string s,.slice A2 l.length c2,.bool al] rfl rfl 30 _ KO1.out rfl zw (by simp[Value.oneCell']) ?_
 intro w2 hk2 hg2;have KX2:Hid (Bk w2 bp 471 [.pointer (some ⟨bd,0,none⟩)]):=zo ((hg2.block bp KX1.lt fun e=>by have h1:=HN.out;have h2:bp=bo:=zq e;omega).trans KX1.out)
 have qL:=zo hk2;have HG2:=zo hg2;refine hK.out _ _ (KX2.cell 0 rfl) (fun rW=>?_)
 clear hK K lU hk2 hg2
 try simp only[Act.put]
 refine wpAnyH_ready (rs:=[4]) zz zw ?_;refine AllReadyH.cons (o:=_) rfl (fun K hK=>?_) AllReadyH.nil
 have z0:=KX2.cell 0 rfl;have z1:=KX2.frozen 0;go_simp;refine hK.out _ _ ((KX2.set 0 _).cell 0 rfl) (fun ai7=>?_)
 clear hK K rW ai7;refine wpAnyH_done zz ?_ _;refine WG.normal ?_;have KX3:Hid (Bk (w2.setCell ⟨bp,0,none⟩ (.pointer (some ⟨bd,0,none⟩))) bp 471 [.pointer (some ⟨bd,0,none⟩)]):=zo (KX2.set 0 _);have KO3:=zo (qL.other (p:=⟨bp,0,none⟩) (by have h1:=HN.out;show bo≠bp;omega) (.pointer (some ⟨bd,0,none⟩)))
 have ru:=zo (lV w2 bp 0 (.pointer (some ⟨bd,0,none⟩)));generalize w2.setCell ⟨bp,0,none⟩ (.pointer (some ⟨bd,0,none⟩))=w3 at KX3 KO3 ru ⊢;clear z0 z1;have y0:=KO3.cell 0 rfl;have y1:=KO3.cell 1 rfl;have y2:=KO3.cell 2 rfl;have y3:=KO3.cell 3 rfl;have y4:=KO3.cell 4 rfl;have y5:=KX3.cell 0 rfl;go_wp2;refine leaves_cons (f:=407) (args:=#[.pointer (some ⟨bp,0,none⟩),.pointer (some ⟨w.heap.size,0,none⟩),.pointer (some ⟨bo,0,none⟩)]) zw (by simp[go_sem]) ?_
 refine (UI _ _ _ w3).mono ?_;rintro e u' w'' ⟨rfl,rfl,rfl⟩;refine⟨.tuple #[.agg #[.int .i64 (k:Int),.slice A1 m c1,.string s,.slice A2 l.length c2,.bool al],.pointer (some ⟨bd,0,none⟩)],by simp[results,Tryz.results356,go_sem,y0,y1,y2,y3,y4,y5],A1,c1,A2,c2,_,rfl,⟨?_,?_⟩,?_⟩
 ·have h1:=KXd.lt;have h2:=HN.out;have r1:=HR1.1.keep (w':=w2) fun i _ (hi:W0.drew.heap.size≤i)=>HG2.block i (by assumption) fun e=>by have h3:i=bo:=zq e;omega
  have r2:=r1.keep (w':=w'') fun i _ (hi:W0.drew.heap.size≤i)=>ru.block i (by assumption) fun e=>by have h3:i=bp:=zq e;omega
  have h4:=OO.size;exact r2.mono fun _ _ h=>zV h4 h
 ·have h1:=KXd.lt;have h2:=HN.out;have r1:=HR1.2.keep (w':=w2) fun i _ (hi:W0.drew.heap.size≤i)=>HG2.block i (by assumption) fun e=>by have h3:i=bo:=zq e;omega
  have r2:=r1.keep (w':=w'') fun i _ (hi:W0.drew.heap.size≤i)=>ru.block i (by assumption) fun e=>by have h3:i=bp:=zq e;omega
  have h4:=OO.size;exact r2.mono fun _ _ h=>zV h4 h
 ·exact (HB1.grown HG2.out HB1.size fun k e=>by have h1:=HN.out;have h2:bo=k:=zq e;omega).grown ru.out (zV HB1.size HG2.size) fun k e=>by have h1:=HN.out;have h2:bp=k:=zq e;omega
 obtain⟨⟨rfl,rfl,rfl,rfl,rfl⟩,⟨a',pv,e0,e1,e2,e3,e4,e5,d,n,hb⟩,hg⟩:=hS;show Leaves Tryz.prog Tryz.f356 a.tmps _ a.defers (.panicking DV) w9;rw[hD];refine leaves_cons (f:=407) (args:=#[.pointer (some ⟨bp,0,none⟩),.pointer (some ⟨w.heap.size,0,none⟩),.pointer (some ⟨bo,0,none⟩)]) zw (by simp[go_sem]) ?_
 have hN:=HN.out;have KO9:Bk w9 bo 30 [.int .i64 0,.slice none 0 0,.string ⟨#[]⟩,.slice none 0 0,.bool false]:=(hg.block bo KOd.lt fun e=>by have h2:bo=bd:=zq e;omega).trans KOd.out
 have KX9:Bk w9 bp 471 [.pointer (some ⟨bd,0,none⟩)]:=(hg.block bp KXd.lt fun e=>by have h2:bp=bd:=zq e;omega).trans KXd.out
 have KB9:Bk w9 w.heap.size 22 [.slice A m c]:=(hg.block _ KBd.lt fun e=>by have h2:w.heap.size=bd:=zq e;omega).trans KBd.out
 have HB9:=OO.grown hg OO.size fun k e=>by have h2:bd=k:=zq e;omega
 have R9:=HRd.keep (w':=w9) fun i h (hi:i < w.heap.size)=>hg.block i h fun e=>by have h3:i=bd:=zq e;omega
 refine (PW bp w.heap.size bo bd A m c a' pv e0 e1 e2 e3 e4 e5 d n V w9 _ hb KX9 KB9 KO9 R9 HV.1 HV.2.1 HV.2.2.1 HV.2.2.2.1 HV.2.2.2.2 zy).mono ?_;rintro e u' w10 ⟨rfl,rfl,A1,c1,ho,hp,hr,hg2⟩;have y0:=ho.cell 0 rfl;have y1:=ho.cell 1 rfl;have y2:=ho.cell 2 rfl;have y3:=ho.cell 3 rfl;have y4:=ho.cell 4 rfl;have y5:=hp.cell 0 rfl;refine⟨.tuple #[Qs 4 m 0 ⟨#[]⟩ false A1 c1 none 0,.pointer (some ⟨bd,0,none⟩)],by simp[results,Tryz.results356,go_sem,h2,h3,y0,y1,y2,y3,y4,y5],A1,c1,none,0,_,rfl,⟨?_,fun h=>absurd rfl h⟩,HB9.grown hg2 HB9.size fun k e=>by have h2:bo=k:=zq e;omega⟩
 rw[show V.take m=V from by rw[← HV.2.1];exact yH]
 exact hr.mono fun i _ h=>zV HB9.size h
def akt (k m:Nat)(s:ByteArray)(l:List aG)(al:Bool)(V:List Value)(w:World)(e:Ending)(w':World):Prop:=∃A' c' OP c'',e= .returned (Qs k m l.length s al A' c' OP c'')∧akm w.heap.size w' V m l A' OP∧Below w.heap.size w w'
theorem VQ {w:World}{k m:Nat}{s:ByteArray}{l:List aG}{al:Bool}{V:List Value}{A:Option Addr}{N c:Nat}(CI:Hid (abR k m s l al V A N c w))(h1:∀u∈V,u.oneCell'=true)(hN:V.length=N)(hN1:1≤N)(hm:(N:Int)≤1000)(hc:N≤c)(q:Nat→Prop)(hr:Rd w q A V):
 Calls Tryz.prog 317 #[.slice A N c] w fun e w'=>akt k m s l al V w e w':=by
 have Es:=(zh w.heap.size w).alloc (zn _) (.cells #[.int .i64 0,.slice none 0 0,.string ⟨#[]⟩,.slice none 0 0,.bool false] 30);have HB0:=zo Es;have KO:=zo (Bk.new w 30 [.int .i64 0,.slice none 0 0,.string ⟨#[]⟩,.slice none 0 0,.bool false]);have CRd:=zo (Ye (CI:=zo fun W bx hb hx hB=>CI.out W bx hb (zV Es.size hx) (Es.trans (hB.mono Es.size))) h1 hN hN1 hm hc q (hr.after Es))
 clear hN hc hr h1 hN1 hm CI Es;go_enter Tryz.func317,Tryz.ntmps317;go_upto_region 2 with (go_at_call 356;refine CRd.mono ?_;rintro e w1 ⟨A1,c1,A2,c2,x,rfl,⟨hr1,hr2⟩,hb⟩;have KO1:=zo (KO.after hb);have HB1:=zo (HB0.trans (hb.mono HB0.size));have HR1:=zo (zM hr1 hr2);clear hb hr1 hr2)
 have hb2:=(zh w1.heap.size w1).alloc (zn _) (.cells #[.int .i64 (k:Int),.slice A1 m c1,.string s,.slice A2 l.length c2,.bool al] 30);have KN:Hid (Bk (w1.alloc (.cells #[.int .i64 (k:Int),.slice A1 m c1,.string s,.slice A2 l.length c2,.bool al] 30)) w1.heap.size 30 [.int .i64 (k:Int),.slice A1 m c1,.string s,.slice A2 l.length c2,.bool al]):=zo (Bk.new w1 _ _);have KO2:=zo (KO1.after hb2);have HB2:=zo (HB1.trans (hb2.mono HB1.size));have HR2:=zo (zM (HR1.1.after hb2) (HR1.2.after hb2));have HL2:=zo (show w.heap.size≠w1.heap.size from Nat.ne_of_lt KO1.lt)
 generalize w1.alloc (.cells #[.int .i64 (k:Int),.slice A1 m c1,.string s,.slice A2 l.length c2,.bool al] 30)=W2 at KN KO2 HB2 HR2 ⊢;generalize w1.heap.size=bn at KN HL2 ⊢;clear hb2 HR1 KO1 HB1 KO HB0 CRd;obtain⟨bo,Es⟩:∃b,w.heap.size=b:=⟨_,rfl⟩;have HBO:=zo Es;rw[Es] at KO2 HL2;rw[Es];have u0:=KN.cell 0 rfl;have u1:=KN.cell 1 rfl;have u2:=KN.cell 2 rfl;have u3:=KN.cell 3 rfl;have u4:=KN.cell 4 rfl;clear Es
 go_wp2_with (refine aN rfl 30 (.tmp 2) (.tmp 10) rfl bo 0 [.int .i64 (k:Int),.slice A1 m c1,.string s,.slice A2 l.length c2,.bool al] rfl rfl 30 _ KO2.out rfl zw (by simp[Value.oneCell']) ?_;intro w3 hk3 hg3;have u7:=zo hk3;have ru:=zo hg3;clear hk3 hg3)
 have y0:=u7.cell 0 rfl;have y1:=u7.cell 1 rfl;have y2:=u7.cell 2 rfl;have y3:=u7.cell 3 rfl;have y4:=u7.cell 4 rfl;refine xx (v:=.agg #[.int .i64 (k:Int),.slice A1 m c1,.string s,.slice A2 l.length c2,.bool al]) (by simp[Act.put,results,Tryz.results317,go_sem,y0,y1,y2,y3,y4]) rfl ⟨A1,c1,A2,c2,rfl,⟨?_,?_⟩,?_⟩
 ·exact (HR2.1.keep fun i h hi=>ru.block i h fun e=>by have h3:i=bo:=zq e;have h4:=HBO.out;rw[zU] at hi;omega).mono fun i _ h=>by rw[zU] at h;omega
 ·exact (HR2.2.keep fun i h hi=>ru.block i h fun e=>by have h3:i=bo:=zq e;have h4:=HBO.out;rw[zU] at hi;omega).mono fun i _ h=>by rw[zU] at h;omega
 ·exact HB2.grown ru.out HB2.size fun k e=>by have h3:bo=k:=zq e;have h4:=HBO.out;omega
end
section
open Go.RowKit
section
variable {F:Fence} {n:Nat} {P:Program}
def afB {α:Type}(F:Fence)(n:Nat)(P:Program)(g:Nat)(lb:Array Value)(encs:α→Array Value)(E:α→World→World→Prop)(Kp:World→World→Prop)(S Sp:List α→Prop)(w:World):Prop:=
 ∀(l:Nat) (J Jx:List α→World→Prop) (W:World),Below w.heap.size w W→AbidesFrom W.heap.size J→AbidesFrom W.heap.size Jx→
  (∀pre x Wr W1,Sp (pre++[x])→J pre Wr→Below Wr.heap.size Wr W1→E x Wr W1→YieldAt F (n - 1) P l (encs x) W1 fun e W'=>
    (e= .returned (.bool true)∧J (pre++[x]) W'∧Kp W1 W')∨(e= .returned (.bool false)∧Jx (pre++[x]) W'))→
  J [] W→
  CallsIn F n P g (#[.func (.yield l) #[] #[]]++lb) W fun e W'=>(∃v,e= .returned v)∧((∃xs,S xs∧J xs W')∨(∃pre,Sp pre∧Jx pre W'))
theorem Jq {α:Type}{g:Operand}{ps:Array Tmp}{assign body:Code}{Q:Exit→Act→World→Prop}{a:Act}{w:World}
 (hro:F.round=none) (h1:1≤n) {gf:Nat} {lb:Array Value} (hg:a.eval g= .func (.func gf) #[] lb) (hFg:F.fn gf) (eg:∀args w,(callFunc gf args).run P w= .ok (.enter gf args) w)
 {encs:α→Array Value} {E:α→World→World→Prop} {Kp:World→World→Prop} {S Sp:List α→Prop} (hseq:afB F (n - 1) P gf lb encs E Kp S Sp w)
 (hKt:∀{A B C:World},Kp A B→Kp B C→Kp A C) (hKb:∀(W:World) (l:Nat) (o o':Obj),w.heap.size≤l→W.heap[l]? =some o→o.isCells=false→o.isWalk=false→Kp W (W.putObj l o')) (hps:∀x,(encs x).size=ps.size)
 (I:List α→World→Prop) (Ix:Code→List α→World→Prop) (hI:OwnFrom w.heap.size I) (hIx:∀c,OwnFrom w.heap.size (Ix c)) (h0:I [] w) (Ax:α→Act→World→Prop) (hAx:∀x a',OwnFrom w.heap.size (fun (_:Unit) W=>Ax x a' W))
 (hassign:∀(l:Nat) (pre:List α) (x:α) (Wr W:World) (K:Act→World→Prop),Sp (pre++[x])→I pre Wr→Below Wr.heap.size Wr W→E x Wr W→(∀a' W',KeepsFrom w.heap.size W W'→Kp W W'→I pre W'→Ax x a' W'→K a' W')→
   assign.wpIn (F.inRound l) (n - 1 - 1) P (Exit.then K (fun _ _ _=>False)) { tmps:=(ps.zip (encs x)).foldl (fun t (p,v)=>t.setIfInBounds p v) a.tmps,defers:=[]} W)
 (hbody:∀(l:Nat) (pre:List α) (x:α) (a':Act) (W:World),Sp (pre++[x])→I pre W→Ax x a' W→body.wpIn (F.inRound l) (n - 1 - 1) P (ownPostG w.heap.size Kp I Ix (pre++[x]) W) a' W)
 (hdone:∀(D:Nat) (xs:List α) (W:World),w.heap.size≤D→S xs→I xs W→W.heap[D]? =some (.deferred (some []))→Q .normal { a with defers:={ target:=.collected D,args:=#[]}::a.defers} W)
 (hstop:∀(D:Nat) (c:Code) (pre:List α) (W:World),w.heap.size≤D→Sp pre→Ix c pre W→W.heap[D]? =some (.deferred (some []))→c.wpIn F n P Q { a with defers:={ target:=.collected D,args:=#[]}::a.defers} W):
 (Code.rangeFunc g ps assign body).wpIn F n P Q a w:=by
 refine wpIn_rangeFunc fun fn hfn=>?_
 rw[hro];have hw1:∃rec:LoopState→Option Code→Loop,rec=fun st pe=>{ state:=st,pending:=pe,fn,tmps:=a.tmps,params:=ps,assign,body,defers:=w.heap.size}:=⟨_,rfl⟩
 obtain⟨rec,hrec⟩:=hw1;obtain⟨D,hD⟩:∃D,w.heap.size=D:=⟨_,rfl⟩;obtain⟨V,hV⟩:∃V,(w.alloc (.deferred (some []))).alloc (.loop (rec .ready none))=V:=⟨_,rfl⟩
 have vL:V.heap[D+1]? =some (.loop (rec .ready none)):=by
  have:=World.alloc_heap_new (w.alloc (.deferred (some []))) (.loop (rec .ready none));rw[zU,hD] at this;rw[← hV];exact this
 have vD:V.heap[D]? =some (.deferred (some [])):=by
  rw[← hV,← hD];exact (wT _ _ _ zw).trans (World.alloc_heap_new w _)
 have vI:I [] V:=by
  rw[← hV];exact hI.alloc _ (hI.alloc _ h0)
 have vB:Below w.heap.size w V:=by
  rw[← hV];exact ((zh _ w).alloc (zn _) _).alloc zw _
 have vS:V.heap.size=D+2:=by rw[← hV,← hD];simp
 refine⟨D+1,[{ target:=.collected D,args:=#[]}],V,{ target:=.fn (.func gf) lb,args:=#[.func (.yield (D+1)) #[] #[]]},V,gf,#[.func (.yield (D+1)) #[] #[]]++lb,V,?_,?_,?_,?_,fun _=>h1,?_⟩
 ·rw[← hV,hrec,← hD];exact run_enterLoop_outer _ _ _ _ _
 ·simp only[resolve,hg];simp[go_sem]
 ·intro f' hf';simp[Target.leads] at hf';subst hf';exact hFg
 ·simp[invoke,go_sem,eg]
 have turn:∀{A:World} {row:Option Nat},(∀r,row=some r→V.heap.size≤r∧∃o:Obj,A.heap[r]? =some o∧o.isWalk=true)→∀r,row=some r→w.heap.size≤r∧∃o:Obj,A.heap[r]? =some o∧o.isCells=false:=fun {A row} hr r e=>by
  obtain⟨hB,o,ho,hw⟩:=hr r e;exact⟨zy,o,ho,Obj.not_cells_of_walk hw⟩
 have keep:∀{A B:World} {row:Option Nat} {k:Nat} {o:Obj},A.grownBy B row→(∀r,row=some r→V.heap.size≤r∧∃o:Obj,A.heap[r]? =some o∧o.isWalk=true)→A.heap[k]? =some o→o.isWalk=false→B.heap[k]? =some o:=fun hg' hr ho hw=>(grownBy_keeps hg' (fun r e=>(hr r e).2) ho hw).trans ho
 refine (hseq (D+1) (fun pre W=>I pre W∧W.heap[D+1]? =some (.loop (rec .ready none))∧W.heap[D]? =some (.deferred (some [])))
  (fun pre W=>∃c,Ix c pre W∧W.heap[D+1]? =some (.loop (rec .done (some c)))∧W.heap[D]? =some (.deferred (some []))) V vB
  (fun s A B row hs hg' hr=>⟨hI s A B row hs.1 hg' (turn hr),keep hg' hr hs.2.1 rfl,keep hg' hr hs.2.2 rfl⟩)
  (fun s A B row hs hg' hr=>let ⟨c,hc,hl,hk⟩:=hs;⟨c,hIx c s A B row hc hg' (turn hr),keep hg' hr hl rfl,keep hg' hr hk rfl⟩) ?_ ⟨vI,vL,vD⟩).mono ?_
 ·
  rintro pre x Wr W hsp ⟨hi,hl,hk⟩ hbb hx;have hl:=(hbb.block _ (zT.1 hl).1).trans hl;have hk:=(hbb.block _ (zT.1 hk).1).trans hk;have hy:=run_yield (P:=P) (args:=encs x) hl (by rw[hrec];exact hps x)
  rw[hrec] at hy;refine⟨fn,_,assign,body,hy,roundIn_of_wpIn hfn (hassign _ pre x Wr W _ hsp hi hbb hx fun a' Wa kf kp ia ax=>?_)⟩
  clear hy;have la:=kf.same _ _ zy hl rfl;have da:=kf.same _ _ zy hk rfl;have lt:=(zT.1 la).1;refine⟨_,run_beginRound la (by rw[hrec]),?_⟩
  obtain⟨busy,agA⟩:∃b:Loop,{ rec .ready none with state:=.busy}=b:=⟨_,rfl⟩
  rw[agA];have lb:=World.putObj_heap_same (w:=Wa) (r:=D+1) (o:=.loop busy) lt;have db:(Wa.putObj (D+1) (.loop busy)).heap[D]? =some (.deferred (some [])):=(World.putObj_heap_other zy).trans da
  have out:∀(j:Option Code) (U:World),KeepsFrom w.heap.size (Wa.putObj (D+1) (.loop busy)) U→
   (Instr.endRound (D+1) j).run P U= .ok (.bool j.isNone) (U.putObj (D+1) (.loop (rec (if j.isNone then .ready else .done) j)))∧U.heap[D+1]? =some (.loop busy)∧
   (U.putObj (D+1) (.loop (rec (if j.isNone then .ready else .done) j))).heap[D+1]? =some (.loop (rec (if j.isNone then .ready else .done) j))∧
   (U.putObj (D+1) (.loop (rec (if j.isNone then .ready else .done) j))).heap[D]? =some (.deferred (some [])):=fun j U hU=>by
   have lu:=hU.same _ _ zy lb rfl;have du:=hU.same _ _ zy db rfl;refine⟨?_,lu,World.putObj_heap_same (zT.1 lu).1,(World.putObj_heap_other zy).trans du⟩;rw[← agA] at lu;have:=run_endRound (P:=P) j lu;rw[hrec] at this ⊢;exact this
  refine wpIn_mono (hbody _ pre x a' _ hsp (hI.putObj _ ia zy la rfl) ((hAx x a').putObj (s:=()) _ ax zy la rfl)) ?_;rintro e a3 U hp
  cases e with
  |normal=>
   obtain⟨h3,h4,h5⟩:=hp;obtain⟨r1,r2,r3,r4⟩:=out none U h3;exact⟨_,_,r1,.inl ⟨rfl,⟨hI.putObj _ h5 zy r2 rfl,r3,r4⟩,hKt kp (hKt (hKt (hKb _ _ _ _ zy la rfl rfl) h4) (hKb _ _ _ _ zy r2 rfl rfl))⟩⟩
  |ret=>
   obtain⟨r1,r2,r3,r4⟩:=out (some .ret) U hp.1;exact⟨_,_,r1,.inr ⟨rfl,.ret,(hIx _).putObj _ hp.2 zy r2 rfl,r3,r4⟩⟩
  |exit id=>
   obtain⟨r1,r2,r3,r4⟩:=out (some (.exit id)) U hp.1;exact⟨_,_,r1,.inr ⟨rfl,.exit id,(hIx _).putObj _ hp.2 zy r2 rfl,r3,r4⟩⟩
  |goto t=>
   obtain⟨r1,r2,r3,r4⟩:=out (some (.goto t)) U hp.1;exact⟨_,_,r1,.inr ⟨rfl,.goto t,(hIx _).putObj _ hp.2 zy r2 rfl,r3,r4⟩⟩
  |panic ch=>exact hp.elim
  |outgrown=>exact hp.elim
 ·
  rintro e W2 ⟨⟨v,rfl⟩,(⟨xs,hS,hi,hl,hk⟩|⟨pre,hSp,c,hi,hl,hk⟩)⟩
  ·exact⟨none,_,by have:=run_endLoop (P:=P) hl (by rw[hrec];simp);rw[hrec] at this;exact this,hdone _ xs _ zy hS (hI.putObj _ hi zy hl rfl) ((World.putObj_heap_other zy).trans hk)⟩
  ·exact⟨some c,_,by have:=run_endLoop (P:=P) hl (by rw[hrec];simp);rw[hrec] at this;exact this,hstop _ c pre _ zy hSp ((hIx c).putObj _ hi zy hl rfl) ((World.putObj_heap_other zy).trans hk)⟩
end
def WT (w:World):Prop:=w.cell? ⟨1,15,none⟩=some (.int .u8 4)
theorem WT.after {w w':World}{n:Nat}(h:WT w)(hb:Below n w w')(hn:w.heap.size≤n):WT w':=(hb.cell (p:=⟨1,15,none⟩) (zZ (lt_of_cell h) hn)).trans h
theorem ady (w:World):Calls Tryz.prog 300 #[.int .i64 16] w fun e w'=>e= .returned (.bool true)∧w=w':=by
 go_enter Tryz.func300,Tryz.ntmps300;go_wp2;go_ret;exact⟨rfl,rfl⟩
theorem Uk (w:World)(h:WT w):Calls Tryz.prog 60 #[.int .u64 16] w fun e w'=>e= .returned (.int .i64 4)∧w=w':=by
 unfold WT at h;have h1:IntKind.u64.wrap (-16)=18446744073709551600:=by decide+kernel
 have h2:bits .and .u64 16 18446744073709551600=16:=by decide+kernel
 have h3:IntKind.u64.wrap 4573923408821661840=4573923408821661840:=by decide+kernel
 have h4:(4573923408821661840:Int) / 288230376151711744=15:=by decide+kernel
 go_enter Tryz.func60,Tryz.ntmps60;go_wp2;go_ret;exact⟨rfl,rfl⟩
theorem acU (w:World)(h:WT w):Calls Tryz.prog 301 #[.int .u64 16] w fun e w'=>e= .returned (.int .i64 4)∧w=w':=by
 have C:=zo (Uk w h);clear h;go_enter Tryz.func301,Tryz.ntmps301
 go_wp2_with (go_at_call 60;refine C.mono ?_;rintro e w' ⟨rfl,rfl⟩)
 go_ret;exact⟨rfl,rfl⟩
def aqc:List UInt8:=[48,49,50,51,52,53,54,55,56,57,97,98,99,100,101,102]
def ld (d:Nat):UInt8:=aqc.getD d 0
def jJ (n:Nat):List UInt8:=if n < 16 then [ld n] else jJ (n / 16)++[ld (n % 16)]
theorem rV {n:Nat}(h:n < 16):jJ n=[ld n]:=by rw[jJ,zW h]
theorem Ep {n:Nat}(h:¬n < 16):jJ n=jJ (n / 16)++[ld (n % 16)]:=by rw[jJ,za h]
theorem ldb:∀d:Fin 16,((⟨#[48,49,50,51,52,53,54,55,56,57,97,98,99,100,101,102,103,104,105,106,107,108,109,110,111,112,113,114,115,116,117,118,119,120,121,122]⟩:ByteArray)[d.val]'(by have:=d.isLt;exact zZ this zx))=ld d.val:=by decide+kernel
theorem Uj (m:Nat)(h:(m:Int)≤65535):bits .and .u64 (m:Int) 15=((m % 16:Nat):Int):=by
 have h127:(BitVec.ofInt 64 15).toNat=2 ^ 4 - 1:=zx
 have key:(BitVec.ofInt 64 (m:Int) &&& BitVec.ofInt 64 15).toNat=((m:Int) % ((2 ^ 64:Nat):Int)).toNat % 2 ^ 4:=by
  rw[BitVec.toNat_and,BitVec.toNat_ofInt,h127,Nat.and_two_pow_sub_one_eq_mod]
 show IntKind.u64.wrap ((BitVec.ofInt 64 (m:Int) &&& BitVec.ofInt 64 15).toNat:Nat)=_;rw[key,IntKind.wrap_u64];omega
theorem TN (w:World):Buf (w.alloc (.cells Tryz.zeroCells416 416)) w.heap.size (List.replicate 65 0):=fun k hk=>by
 have hz:Tryz.zeroCells416=(List.replicate 65 (Value.int .u8 0)).toArray:=by kernel_rfl
 have hk2:k < 65:=by simpa using hk
 constructor
 ·rw[List.getElem_replicate];unfold World.cell?;simp only[heap_alloc_new,hz];show (List.replicate 65 (Value.int .u8 0)).toArray[k]? =_;rw[vT,List.getElem?_replicate,zW hk2];rfl
 ·unfold World.frozen?;simp only[heap_alloc_new];simp
theorem aae {L:List UInt8}{n m q i d:Nat}{y:UInt8}(hL:L.length=65)(h:jJ n=jJ m++L.drop i)(hm:¬m < 16)(hq:q+1=i)(hi:i≤65)(hd:m % 16=d)(hy:y=ld d):Hid (jJ n=jJ (m / 16)++(L.set q y).drop q):=by
 show _=_;subst hq;rw[h,Ep hm,hd,yc];have hq:q < (L.set q y).length:=by simp;omega
 rw[zK hq,vU,List.drop_set_of_lt zy,hy];rfl
theorem NH {L:List UInt8}{n m q i:Nat}{y:UInt8}(hL:L.length=65)(h:jJ n=jJ m++L.drop i)(hm:m < 16)(hq:q+1=i)(hi:i≤65)(hy:y=ld m):(L.set q y).drop q=jJ n:=by
 subst hq;rw[h,rV hm];have hq:q < (L.set q y).length:=by simp;omega
 rw[zK hq,vU,List.drop_set_of_lt zy,hy];rfl
theorem Buf.tail {w:World}{g:Nat}{l:List UInt8}(h:Buf w g l)(q:Nat):Rd w (fun x=>x=g) (some ⟨g,q,none⟩) (bs (l.drop q)):=by
 have:=h.rd.drop q;rw[show (bs l).drop q=bs (l.drop q) from by simp[bs]] at this
 simpa [Addr.add_lit] using this
theorem XJ (g q r:Nat)(w:World)(hr:q+r=65)(hq:q < 65):(Instr.sliceAt 416 (.pointer (some ⟨g,0,none⟩)) (some (.int .i64 (q:Int))) none none).run Tryz.prog w= .ok (.slice (some ⟨g,q,none⟩) r r) w:=by
 have e1:65 - q=r:=zy;have e3:¬65=q:=zy;have hs:∀w,(sizeOf 5).run Tryz.prog w= .ok 1 w:=fun w=>by kernel_rfl
 have hadd:(⟨g,0,none⟩:Addr).add q=⟨g,q,none⟩:=by rw[Addr.add_lit,yD]
 have b1:∀y (code:BoundsCode),q≤y→(Instr.sliceBound (.int .i64 (q:Int)) y code).run Tryz.prog w= .ok q w:=fun y code hy=>by
  have c1:(0:Int)≤(q:Int)∧(q:Int)≤(y:Int):=⟨zy,zy⟩;simp only[Instr.sliceBound,asIntOf,Sem.run_bind,Sem.run_pure,Result.andThen_ok,if_pos c1,Int.toNat_natCast]
 have hb:(Instr.sliceBounds false 65 65 (some (.int .i64 (q:Int))) none none).run Tryz.prog w= .ok (q,65,65) w:=by
  simp[Instr.sliceBounds,b1 _ _ (show q≤65 by omega)]
 simp only[Instr.sliceAt,run_underlying Tryz.underlying416,Sem.run_bind,Result.andThen_ok,Instr.sureAddr,Sem.run_pure,hb,hs,Nat.mul_one,hadd,if_neg e3,e1]
theorem VU (n:Nat)(w:World)(hn:(n:Int)≤65535)(h:WT w):
 Calls Tryz.prog 235 #[.slice none 0 0,.int .u64 (n:Int),.int .i64 16,.bool false,.bool false] w fun e w'=>e= .returned (.tuple #[.slice none 0 0,.string ⟨(jJ n).toArray⟩])∧Below w.heap.size w w':=by
 have CT:Hid (∀W:World,Below w.heap.size w W→Calls Tryz.prog 301 #[.int .u64 16] W fun e w'=>e= .returned (.int .i64 4)∧W=w'):=fun W hb=>acU W (h.after hb (zn _))
 have CW:Hid (∀W:World,Calls Tryz.prog 300 #[.int .i64 16] W fun e w'=>e= .returned (.bool true)∧W=w'):=fun W=>ady W
 clear h;have HB0:=zo (TN w);have HA:Hid (Below w.heap.size w (w.alloc (.cells Tryz.zeroCells416 416))):=(zh _ _).alloc (zn _) _;obtain⟨w0,hw0⟩:∃w0,w.alloc (.cells Tryz.zeroCells416 416)=w0:=⟨_,rfl⟩;have HW0:=zo hw0;rw[hw0] at HB0;rw[hw0] at HA;clear hw0;go_enter Tryz.func235,Tryz.ntmps235
 go_wp2_with (first
  |(go_at_call 300;refine (CW.out _).mono ?_;rintro e w1 ⟨rfl,rfl⟩)
  |(go_at_call 301;rw[HW0.out];refine (CT.out _ HA.out).mono ?_;rintro e w1 ⟨rfl,rfl⟩))
 go_loopw [1,13] (fun u v W=>∃(m i:Nat) (L:List UInt8),u= .int .u64 (m:Int)∧v= .int .i64 (i:Int)∧(m:Int)≤65535∧62≤(i:Int)∧(i:Int)≤65∧Hid ((i=65∧m≤65535)∨(i=64∧m≤4095)∨(i=63∧m≤255)∨(i=62∧m≤15))∧Hid (L.length=65)∧Hid (Buf W w.heap.size L)∧Hid (jJ n=jJ m++L.drop i)∧Hid (Below w.heap.size w W)) (fun _ v _=>(intOf v).toNat)
 case atStart=>exact⟨n,65,_,rfl,rfl,hn,zy,zy,.inl ⟨rfl,zy⟩,by show _=_;exact wR ..,HB0.out,by show _=_;rw[List.drop_of_length_le (by rw[wR];exact zn _),wI],HA.out⟩
 case round=>
  obtain⟨m,i,L,rfl,rfl,hm,hi0,hi1,hI,hL,hB,hX,hQ⟩:=hrel;obtain⟨q,hq⟩:∃q:Nat,(i:Int) - 1=(q:Int):=⟨i - 1,zy⟩;have hqL:q < L.length:=by rw[hL.out];omega
  obtain⟨hc,hf⟩:=hB.out q hqL;obtain⟨y0,hy0⟩:∃y0:Int,(L[q].toNat:Int)=y0:=⟨_,rfl⟩;rw[hy0] at hc;have auI:(q:Int) < 65:=zy;have HQI:Hid (q+1=i):=by show _=_;omega
  clear hy0;by_cases h16:16≤(m:Int)
  ·obtain⟨d,hd1⟩:∃d:Nat,m % 16=d:=⟨_,rfl⟩;have hd2:(d:Int) < 16:=zy;have hand:bits .and .u64 (m:Int) 15=(d:Int):=by rw[Uj m hm,hd1]
   have HD:=zo hd1;have hI2:63≤i:=by have:=hI.out;omega
   have arV:=zo hqL;clear hd1;go_wp2;go_roundw
   case rel=>exact⟨m / 16,q,_,rfl,rfl,zy,zy,zy,by show _∨_;have:=hI.out;omega,by show _=_;rw[vY];exact hL.out,hB.set arV.out _,aae hL.out hX.out zy HQI.out zy HD.out (ldb ⟨d,zy⟩),hQ.setCell (p:=⟨w.heap.size,q,none⟩) (zn _) _⟩
   case measure=>simp[intOf];omega
  ·obtain⟨r,hr⟩:∃r,q+r=65:=⟨65 - q,zy⟩;have hsl:=fun W=>XJ w.heap.size q r W hr zy
   have hidx:=ldb ⟨m,zy⟩;obtain⟨y,hy⟩:∃y:UInt8,y=ld m:=⟨_,rfl⟩
   have ar5:Hid (Rd (wr.setCell ⟨w.heap.size,q,none⟩ (.int .u8 (y.toNat:Int))) (fun x=>x=w.heap.size) (some ⟨w.heap.size,q,none⟩) (bs (jJ n))):=by
    have:=(hB.set hqL y).tail q;rw[NH hL.out hX.out zy HQI.out zy hy] at this;exact this
   have HLEN:Hid (r=(jJ n).length):=by
    show _=_;rw[← NH (y:=y) hL.out hX.out zy HQI.out zy hy,zH,vY,hL.out];omega
   have hix:(⟨#[48,49,50,51,52,53,54,55,56,57,97,98,99,100,101,102,103,104,105,106,107,108,109,110,111,112,113,114,115,116,117,118,119,120,121,122]⟩:ByteArray)[m]'(zZ (show m < 16 by omega) zx)=y:=by rw[hy];exact hidx
   have avB:=zo hr;clear hr hy hidx
   go_wp2_with (refine oH rfl 22 9 5 Tryz.underlying22 Tryz.underlying9 Tryz.underlying5 (.tmp 100) rfl _ r (jJ n) r _ rfl HLEN.out ar5.out ?_)
   go_ret2;exact⟨rfl,hQ.setCell (p:=⟨w.heap.size,q,none⟩) (zn _) _⟩
end
section
def hv (c:UInt8):Nat:=if 48≤c.toNat∧c.toNat≤57 then c.toNat - 48 else if 65≤c.toNat∧c.toNat≤70 then c.toNat - 55 else 99
def aiZ:List UInt8:=[48,49,50,51,52,53,54,55,56,57,65,66,67,68,69,70]
def lQ (b:Nat):Nat→List UInt8→Option Nat
 |n,[]=>some n
 |n,c::l=>if hv c < b∧n * b+hv c≤65535 then lQ b (n * b+hv c) l else none
def gU (b:Nat)(l:List UInt8):Option Nat:=if l=[] then none else lQ b 0 l
theorem mG (b n:Nat)(c:UInt8)(l:List UInt8):lQ b n (c::l)=if hv c < b∧n * b+hv c≤65535 then lQ b (n * b+hv c) l else none:=rfl
theorem lq (b:Nat):∀(l m:List UInt8) (n:Nat),lQ b n (l++m)=(lQ b n l).bind fun k=>lQ b k m
 |[],m,n=>rfl
 |c::l,m,n=>by
  rw[xm,mG,mG];split
  ·exact lq b l m _
  ·rfl
theorem Ha (b:Nat)(l:List UInt8)(c:UInt8)(n:Nat):lQ b n (l++[c])=(lQ b n l).bind fun k=>if hv c < b∧k * b+hv c≤65535 then some (k * b+hv c) else none:=by
 rw[lq];rfl
theorem Vf {b k n:Nat}{l:List UInt8}(h:lQ b n (l.take k)=none):lQ b n l=none:=by
 rw[← vW k l,lq,h];rfl
theorem U5 {b k:Nat}{l:List UInt8}(h:lQ b 0 (l.take k)=none):gU b l=none:=by
 unfold gU;split
 ·rfl
 ·exact Vf h
theorem amH (c:UInt8):hv c≤99:=by
 unfold hv;split
 ·omega
 ·split<;>omega
theorem MZ {b:Nat}:∀{l:List UInt8} {n m:Nat},lQ b n l=some m→∀c∈l,hv c < b
 |[],_,_,_,c,hc=>by cases hc
 |d::l,n,m,h,c,hc=>by
  unfold lQ at h;split at h
  ·rename_i h2;rcases zQ.1 hc with rfl|hc
   ·exact h2.1
   ·exact MZ h c hc
  ·cases h
theorem YM {b:Nat}{l:List UInt8}{m:Nat}(h:gU b l=some m):l≠[]∧∀c∈l,hv c < b:=by
 unfold gU at h;split at h
 ·cases h
 ·rename_i h2;exact⟨h2,MZ h⟩
end
end Go.Proofs.YtpjjgpjhpobkiaaGreatDoor
namespace Go.Proofs
open Go.Shelf Go.RowKit Go.Lib
def Tryz.jB:Go.Shelf.Ren:=⟨fun|156=>51|165=>99|166=>63|169=>65|240=>121|241=>168|276=>191|277=>236|n=>n,fun|31=>122|9=>9|3=>3|4=>4|0=>0|20=>20|72=>141|76=>148|70=>139|37=>22|75=>147|127=>229|164=>293|5=>5|80=>153|n=>n,fun|n=>n⟩
theorem Tryz.SF:Go.Proofs.Lays.n156 Tryz.prog Tryz.jB:=by constructor<;>first|kernel_rfl|(intro w;kernel_rfl)|(intro w;rfl)|decide|(constructor<;>first|kernel_rfl|(intro w;rfl)|decide)
theorem Tryz.iX:Builder.Extra Tryz.prog Tryz.jB:=by constructor<;>first|kernel_rfl|(intro w;kernel_rfl)|(intro w;rfl)|decide|(constructor<;>first|kernel_rfl|(intro w;rfl)|decide)
theorem Tryz.strings_Join_none (a:Option Addr)(c:Nat)(sep:ByteArray)(w:World):
 Calls Tryz.prog 51 #[.slice a 0 c,.string sep] w fun e w'=>e= .returned (.string ⟨#[]⟩)∧w'=w:=Any.strings_Join_none Tryz.SF Tryz.iX a c sep w
theorem Tryz.strings_Join (bk o c:Nat)(xs:List ByteArray)(sep:ByteArray)(w:World)(hcells:∀(j:Nat) x,xs[j]? =some x→w.cell? ⟨bk,o+j,none⟩=some (.string x))(hbk:bk < w.heap.size)(hN:xs.length≤140737488355328)(hcap:xs.length≤c)(hlen:(Lib.join (xs.map (·.data.toList)) sep.data.toList).length≤140737488355328):
 Calls Tryz.prog 51 #[.slice (some ⟨bk,o,none⟩) xs.length c,.string sep] w fun e w'=>e= .returned (.string ⟨(Lib.join (xs.map (·.data.toList)) sep.data.toList).toArray⟩)∧Below w.heap.size w w':=Any.strings_Join Tryz.SF Tryz.iX bk o c xs sep w hcells hbk hN hcap hlen
def Tryz.Nh:Go.Shelf.Ren:=⟨fun|137=>155|217=>116|266=>189|n=>n,fun|9=>9|5=>5|3=>3|n=>n,fun|n=>n⟩
theorem Tryz.aej:Go.Proofs.Lays.n137 Tryz.prog Tryz.Nh:=by constructor<;>first|kernel_rfl|(intro w;kernel_rfl)|(intro w;rfl)|decide|(constructor<;>first|kernel_rfl|(intro w;rfl)|decide)
theorem Tryz.strings_IndexByte (s:ByteArray)(c:Int)(w:World):
 Calls Tryz.prog 155 #[.string s,.int .u8 c] w fun e w'=>e= .returned (.int .i64 (Lib.indexByte s.data.toList c.toNat.toUInt8))∧w'=w:=Any.strings_IndexByte Tryz.aej s c w
def Tryz.Nj:Go.Shelf.Ren:=⟨fun|103=>214|210=>279|206=>221|n=>n,fun|9=>9|4=>4|24=>240|3=>3|n=>n,fun|n=>n⟩
theorem Tryz.ael:Go.Proofs.Lays.n103 Tryz.prog Tryz.Nj:=by constructor<;>first|kernel_rfl|(intro w;kernel_rfl)|(intro w;rfl)|decide|(constructor<;>first|kernel_rfl|(intro w;rfl)|decide)
theorem Tryz.strings_CutPrefix (s p:ByteArray)(w:World):
 Calls Tryz.prog 214 #[.string s,.string p] w fun e w'=>e= .returned (.tuple #[.string ⟨(Lib.trimPrefix s.data.toList p.data.toList).toArray⟩,.bool (Lib.hasPrefix s.data.toList p.data.toList)])∧w'=w:=Any.strings_CutPrefix Tryz.ael s p w
def Tryz.Ni:Go.Shelf.Ren:=⟨fun|104=>344|211=>383|207=>174|n=>n,fun|9=>9|4=>4|24=>240|3=>3|n=>n,fun|n=>n⟩
theorem Tryz.aek:Go.Proofs.Lays.n104 Tryz.prog Tryz.Ni:=by constructor<;>first|kernel_rfl|(intro w;kernel_rfl)|(intro w;rfl)|decide|(constructor<;>first|kernel_rfl|(intro w;rfl)|decide)
theorem Tryz.strings_CutSuffix (s p:ByteArray)(w:World)(hs:s.size≤9223372036854775807):
 Calls Tryz.prog 344 #[.string s,.string p] w fun e w'=>e= .returned (.tuple #[.string ⟨(Lib.trimSuffix s.data.toList p.data.toList).toArray⟩,.bool (Lib.hasSuffix s.data.toList p.data.toList)])∧w'=w:=Any.strings_CutSuffix Tryz.aek s p w hs
def Tryz.Nf:Go.Shelf.Ren:=⟨fun|171=>97|243=>166|246=>167|283=>232|284=>233|285=>234|286=>235|129=>298|317=>297|318=>299|319=>300|320=>301|337=>349|338=>60|n=>n,fun|3=>3|9=>9|2=>2|4=>4|171=>350|0=>0|53=>73|37=>22|5=>5|173=>352|212=>415|51=>290|20=>20|213=>416|46=>224|232=>505|233=>223|n=>n,fun|17=>3|18=>7|19=>1|n=>n⟩
theorem Tryz.aeg:Go.Proofs.Lays.n171 Tryz.prog Tryz.Nf:=by constructor<;>first|kernel_rfl|(intro w;kernel_rfl)|(intro w;rfl)|decide|(constructor<;>first|kernel_rfl|(intro w;rfl)|decide)
theorem Tryz.strconv_Itoa_small (i:Nat)(hi:i < 100)(w:World):
 Calls Tryz.prog 97 #[.int .i64 i] w fun e w'=>e= .returned (.string ⟨(Lib.decDigits i).toArray⟩)∧w'=w:=Any.strconv_Itoa_small Tryz.aeg i hi w
def Tryz.Ng:Go.Shelf.Ren:=⟨fun|138=>11|195=>24|218=>25|143=>26|219=>61|217=>116|225=>117|224=>118|267=>119|266=>189|314=>190|n=>n,fun|9=>9|3=>3|4=>4|5=>5|0=>0|46=>224|146=>291|51=>290|n=>n,fun|1=>0|n=>n⟩
theorem Tryz.aei:Go.Proofs.Lays.n138 Tryz.prog Tryz.Ng:=by constructor<;>first|kernel_rfl|(intro w;kernel_rfl)|(intro w;rfl)|decide|(constructor<;>first|kernel_rfl|(intro w;rfl)|decide)
theorem Tryz.strings_Count_one (s:ByteArray)(c:UInt8)(w:World):
 Calls Tryz.prog 11 #[.string s,.string ⟨#[c]⟩] w fun e w'=>e= .returned (.int .i64 (Lib.countByte s.data.toList c))∧w'=w:=Any.strings_Count_one Tryz.aei s c w
def Tryz.Qp:Go.Shelf.Ren:=⟨fun|99=>158|206=>221|n=>n,fun|9=>9|4=>4|3=>3|n=>n,fun|n=>n⟩
theorem Tryz.aiH:Go.Proofs.Lays.n99 Tryz.prog Tryz.Qp:=by constructor<;>first|kernel_rfl|(intro w;kernel_rfl)|(intro w;rfl)|decide|(constructor<;>first|kernel_rfl|(intro w;rfl)|decide)
theorem Tryz.strings_HasPrefix (s p:ByteArray)(w:World):
 Calls Tryz.prog 158 #[.string s,.string p] w fun e w'=>e= .returned (.bool (Lib.hasPrefix s.data.toList p.data.toList))∧w'=w:=Any.strings_HasPrefix Tryz.aiH s p w
def Tryz.Nk:Go.Shelf.Ren:=⟨fun|102=>54|209=>106|207=>174|n=>n,fun|9=>9|4=>4|3=>3|n=>n,fun|n=>n⟩
theorem Tryz.aem:Go.Proofs.Lays.n102 Tryz.prog Tryz.Nk:=by constructor<;>first|kernel_rfl|(intro w;kernel_rfl)|(intro w;rfl)|decide|(constructor<;>first|kernel_rfl|(intro w;rfl)|decide)
theorem Tryz.strings_TrimSuffix (s p:ByteArray)(w:World)(hs:s.size≤9223372036854775807):
 Calls Tryz.prog 54 #[.string s,.string p] w fun e w'=>e= .returned (.string ⟨(Lib.trimSuffix s.data.toList p.data.toList).toArray⟩)∧w'=w:=Any.strings_TrimSuffix Tryz.aem s p w hs
end Go.Proofs
namespace Go.Proofs.YtpjjgpjhpobkiaaGreatDoor
section
open Go.RowKit
def hd (d:Nat):UInt8:=aiZ.getD d 0
theorem ZL (n:Nat)(w:World)(hn:(n:Int)≤65535)(h:WT w):
 Calls Tryz.prog 167 #[.int .i64 (n:Int),.int .i64 16] w fun e w'=>e= .returned (.string ⟨(jJ n).toArray⟩)∧Below w.heap.size w w':=by
 have C:=zo (VU n w hn h);clear h;go_enter Tryz.func167,Tryz.ntmps167
 go_wp2_with (go_at_call 235;refine C.mono ?_;rintro e w1 ⟨rfl,hb⟩;have HB:=zo hb;clear hb)
 go_ret;exact⟨rfl,HB.out⟩
theorem aeK (n:Nat)(w:World)(hn:(n:Int)≤65535)(h:WT w):
 Calls Tryz.prog 98 #[.int .i64 (n:Int),.int .i64 16] w fun e w'=>e= .returned (.string ⟨(jJ n).toArray⟩)∧Below w.heap.size w w':=by
 have C:=zo (ZL n w hn h);clear h;go_enter Tryz.func98,Tryz.ntmps98
 go_wp2_with (go_at_call 167;refine C.mono ?_;rintro e w1 ⟨rfl,hb⟩;have HB:=zo hb;clear hb)
 go_ret;exact⟨rfl,HB.out⟩
def pE (n:Nat):List UInt8:=if n < 16 then [hd n] else pE (n / 16)++[hd (n % 16)]
theorem fP {n:Nat}(h:n < 16):pE n=[hd n]:=by rw[pE,zW h]
theorem jC {n:Nat}(h:¬n < 16):pE n=pE (n / 16)++[hd (n % 16)]:=by rw[pE,za h]
theorem agi:∀d:Fin 16,gQ (ld d.val)=hd d.val:=by decide+kernel
theorem SN (n:Nat):(jJ n).map gQ=pE n:=by
 induction n using Nat.strongRecOn with
 |ind n ih=>
  by_cases h:n < 16
  ·rw[rV h,fP h];simp only[List.map_cons,List.map_nil];rw[agi ⟨n,h⟩]
  ·rw[Ep h,jC h,yu,ih (n / 16) zy];simp only[List.map_cons,List.map_nil];rw[agi ⟨n % 16,zy⟩]
theorem am7 (n:Nat):0 < (jJ n).length:=by
 by_cases h:n < 16
 ·rw[rV h];exact Nat.one_pos
 ·rw[Ep h];simp
theorem Au:∀n:Nat,1≤n→∃d,d < 16∧1≤d∧∃r,pE n=hd d::r:=by
 intro n
 induction n using Nat.strongRecOn with
 |ind n ih=>
  intro h1;by_cases h:n < 16
  ·exact⟨n,h,h1,[],fP h⟩
  ·obtain⟨d,h2,h3,r,hr⟩:=ih (n / 16) zy zy;exact⟨d,h2,h3,r++[hd (n % 16)],by rw[jC h,hr];rfl⟩
def Z4 (n:Nat):List UInt8:=match pE n with
 |[]=>[]
 |c::r=>if 57 < c.toNat then 48::c::r else c::r
def textOf (n:Int):List UInt8:=if n < 0∨65535 < n then [] else if n≤9 then [hd n.toNat] else Z4 n.toNat++[72]
theorem Eo {n:Nat}(h:n≤65535):(pE n).length≤4:=by
 by_cases h1:n < 16
 ·rw[fP h1];simp
 ·rw[jC h1];by_cases h2:n / 16 < 16
  ·rw[fP h2];simp
  ·rw[jC h2];by_cases h3:n / 16 / 16 < 16
   ·rw[fP h3];simp
   ·rw[jC h3,fP (show n / 16 / 16 / 16 < 16 by omega)];simp
theorem V9:∀i:Fin 10,Lib.decDigits i.val=[hd i.val]:=by decide+kernel
theorem ED (n:Int)(W:World)(g:Nat)(hg:W.heap.size=g)(x:Bool)(hx:decide (0≤n∧n≤65535)=x):Calls Tryz.prog 96 #[.int .i64 0,.int .i64 65535,.slice (some ⟨g,0,none⟩) 1 1] (W.alloc (.cells #[.int .i64 n] 3)) fun e w'=>e= .returned (.bool x)∧W.alloc (.cells #[.int .i64 n] 3)=w':=by
 subst hg;have:=Al 0 65535 _ [n] 1 _ (fun _=>True) zw (Rd.new W #[.int .i64 n] 3 trivial)
 have e:iy 0 65535 [n]=x:=by rw[← hx,yX];simp[iy]
 rw[e] at this;exact this
theorem Xu (n:Int)(w:World)(h:n < 0∨65535 < n):
 Calls Tryz.prog 50 #[.int .i64 n] w fun e w'=>e= .returned (.string ⟨(textOf n).toArray⟩)∧Below w.heap.size w w':=by
 have C1:=zo (ED n w _ rfl false zu);have HT:Hid (textOf n=[]):=by show _=_;rw[textOf,zW h]
 rw[HT.out];clear h;go_enter Tryz.func50,Tryz.ntmps50
 go_wp2_with (go_at_call 96;refine C1.mono ?_;rintro e w1 ⟨rfl,rfl⟩)
 go_ret;exact⟨rfl,(zh _ _).alloc (zn _) _⟩
theorem Pk (i:Nat)(w:World)(h:(i:Int)≤9):
 Calls Tryz.prog 50 #[.int .i64 (i:Int)] w fun e w'=>e= .returned (.string ⟨(textOf (i:Int)).toArray⟩)∧Below w.heap.size w w':=by
 have C1:=zo (ED (i:Int) w _ rfl true zu)
 have C2:Hid (∀W:World,Calls Tryz.prog 97 #[.int .i64 (i:Int)] W fun e w'=>e= .returned (.string ⟨(textOf (i:Int)).toArray⟩)∧w'=W):=fun W=>by
  have:=Tryz.strconv_Itoa_small i zy W;rw[V9 ⟨i,zy⟩] at this;rw[textOf,za zy,zW h];exact this
 obtain⟨s,hs⟩:∃s:ByteArray,(⟨(textOf (i:Int)).toArray⟩:ByteArray)=s:=⟨_,rfl⟩;rw[hs] at C2;rw[hs];clear hs;go_enter Tryz.func50,Tryz.ntmps50
 go_wp2_with (first
  |(go_at_call 96;refine C1.mono ?_;rintro e w1 ⟨rfl,rfl⟩)
  |(go_at_call 97;refine (C2.out _).mono ?_;rintro e w1 ⟨rfl,rfl⟩))
 go_ret;exact⟨rfl,(zh _ _).alloc (zn _) _⟩
theorem Xw (n:Nat)(w:World)(h:9 < (n:Int))(hn:(n:Int)≤65535)(hT:WT w):
 Calls Tryz.prog 50 #[.int .i64 (n:Int)] w fun e w'=>e= .returned (.string ⟨(textOf (n:Int)).toArray⟩)∧Below w.heap.size w w':=by
 have C1:=zo (ED (n:Int) w _ rfl true zu);have HA:Hid (Below w.heap.size w (w.alloc (.cells #[.int .i64 (n:Int)] 3))):=(zh _ _).alloc (zn _) _;obtain⟨F,hF⟩:∃F:ByteArray,(⟨(jJ n).toArray⟩:ByteArray)=F:=⟨_,rfl⟩;obtain⟨U,hU⟩:∃U:ByteArray,(⟨(pE n).toArray⟩:ByteArray)=U:=⟨_,rfl⟩;have hUl:U.data.toList=pE n:=by rw[← hU]
 have C2:Hid (∀W:World,Below w.heap.size w W→Calls Tryz.prog 98 #[.int .i64 (n:Int),.int .i64 16] W fun e w'=>e= .returned (.string F)∧Below W.heap.size W w'):=fun W hb=>by
  have:=aeK n W hn (hT.after hb (zn _));rw[hF] at this;exact this
 have hFl:F.data.toList=jJ n:=by rw[← hF]
 have hFs:F.size≤4:=by
  rw[← bF,hFl];have:=Eo (n:=n) zy;rw[← SN,zI] at this;exact this
 have C3:Hid (∀W:World,Calls Tryz.prog 45 #[.string F] W fun e w'=>e= .returned (.string U)∧Below W.heap.size W w'):=fun W=>by
  have:=jU F W (by unfold maxLen;omega)
  rw[hFl,SN,hU] at this;exact this
 obtain⟨c,r,hcr⟩:∃c r,pE n=c::r:=by
  obtain⟨d,_,_,r,h⟩:=Au n zy;exact⟨_,r,h⟩
 have hUs:U.size≤4:=by rw[← bF,hUl];exact Eo zy
 obtain⟨S,hS⟩:∃S:ByteArray,U++⟨#[72]⟩=S:=⟨_,rfl⟩;have SX:S.data.toList=c::(r++[72]):=by rw[← hS,vQ,vH,hUl,hcr];rfl
 have hS0:0 < S.size:=by rw[← bF,SX];simp
 have hS4:S.size≤10:=by rw[← hS,vR];show U.size+1≤10;omega
 have hz:S[0]=c:=by
  obtain⟨c',h1,h2⟩:=rE S hS0;rw[SX] at h2;rw[h1,← zq h2]
 have ht:textOf (n:Int)=if 57 < c.toNat then 48::(c::(r++[72])) else c::(r++[72]):=by
  rw[textOf,za zy,za zy,wV];unfold Z4;rw[hcr];dsimp only;split<;>rfl
 obtain⟨y,hy⟩:∃y:Int,(c.toNat:Int)=y:=⟨_,rfl⟩
 have H1:Hid (57 < y→(⟨(textOf (n:Int)).toArray⟩:ByteArray)=⟨#[48]⟩++S):=fun h=>by
  rw[ht,zW zy,← SX];apply xn;rw[vQ];apply Array.toList_inj.1;rw[vH];rfl
 have H2:Hid (y≤57→(⟨(textOf (n:Int)).toArray⟩:ByteArray)=S):=fun h=>by
  rw[ht,za zy,← SX]
 obtain⟨R,hR⟩:∃R:ByteArray,(⟨(textOf (n:Int)).toArray⟩:ByteArray)=R:=⟨_,rfl⟩;rw[hR] at H1 H2;rw[hR];clear hF hU hUl hFl hcr SX ht hR hT;by_cases h57:57 < y
 ·have HR:=zo (H1.out h57);clear H1 H2;go_enter Tryz.func50,Tryz.ntmps50
  go_wp2_with (first
   |(go_at_call 96;refine C1.mono ?_;rintro e w1 ⟨rfl,rfl⟩)
   |(go_at_call 98;refine (C2.out _ HA.out).mono ?_;rintro e w2 ⟨rfl,hb⟩;have B2:=zo (HA.trans (hb.mono HA.size));clear hb)
   |(go_at_call 45;refine (C3.out _).mono ?_;rintro e w3 ⟨rfl,hb⟩;have B3:=zo (B2.trans (hb.mono B2.size));clear hb))
  go_ret;exact⟨by rw[HR.out];rfl,B3.out⟩
 ·have HR:=zo (H2.out zy);clear H1 H2;go_enter Tryz.func50,Tryz.ntmps50
  go_wp2_with (first
   |(go_at_call 96;refine C1.mono ?_;rintro e w1 ⟨rfl,rfl⟩)
   |(go_at_call 98;refine (C2.out _ HA.out).mono ?_;rintro e w2 ⟨rfl,hb⟩;have B2:=zo (HA.trans (hb.mono HA.size));clear hb)
   |(go_at_call 45;refine (C3.out _).mono ?_;rintro e w3 ⟨rfl,hb⟩;have B3:=zo (B2.trans (hb.mono B2.size));clear hb))
  go_ret;exact⟨by rw[HR.out];rfl,B3.out⟩
theorem oM (n:Int)(w:World)(hT:WT w):Calls Tryz.prog 50 #[.int .i64 n] w fun e w'=>e= .returned (.string ⟨(textOf n).toArray⟩)∧Below w.heap.size w w':=by
 by_cases h:n < 0∨65535 < n
 ·exact Xu n w h
 ·obtain⟨i,rfl⟩:=vg (show 0≤n by omega)
  by_cases h9:(i:Int)≤9
  ·exact Pk i w h9
  ·exact Xw i w zy zy hT
def hp (c:UInt8):Int:=if hv c < 16 then (hv c:Int) else -1
theorem aiV:∀n:Fin 256,Lib.indexByte aiZ (UInt8.ofNat n.val)=hp (UInt8.ofNat n.val):=by decide+kernel
theorem amT (c:UInt8):Lib.indexByte aiZ c=hp c:=by
 have:=aiV ⟨c.toNat,c.toNat_lt⟩;rw[show UInt8.ofNat (⟨c.toNat,c.toNat_lt⟩:Fin 256).val=c from by simp] at this
 exact this
theorem J5 (c:UInt8)(w:World):Calls Tryz.prog 155 #[.string ⟨#[48,49,50,51,52,53,54,55,56,57,65,66,67,68,69,70]⟩,.int .u8 (c.toNat:Int)] w fun e w'=>e= .returned (.int .i64 (hp c))∧w=w':=by
 refine (Tryz.strings_IndexByte ⟨#[48,49,50,51,52,53,54,55,56,57,65,66,67,68,69,70]⟩ (c.toNat:Int) w).mono fun e w' ⟨he,hw⟩=>⟨?_,hw.symm⟩
 rw[he];have e2:((c.toNat:Int).toNat).toUInt8=c:=zw;rw[e2];exact iA (amT c)
def dgV:Option Nat→Value
 |some m=>.tuple #[.int .i64 (m:Int),.bool true]
 |none=>.tuple #[.int .i64 0,.bool false]
theorem QN (b n:Nat)(c:UInt8)(hb:2≤b∧b≤16)(_:n≤65535):
 (∃d:Int,hp c=d∧0≤d∧d < (b:Int)∧d≤99∧(n:Int) * (b:Int)+d≤65535∧((n * b+hv c:Nat):Int)=(n:Int) * (b:Int)+d∧hv c < b∧n * b+hv c≤65535)∨
 (∃d:Int,hp c=d∧0≤d∧d < (b:Int)∧d≤99∧65535 < (n:Int) * (b:Int)+d∧¬(hv c < b∧n * b+hv c≤65535))∨
 (∃d:Int,hp c=d∧(b:Int)≤d∧0≤d∧d≤99∧¬(hv c < b∧n * b+hv c≤65535))∨
 (∃d:Int,hp c=d∧d < 0∧ -1≤d∧¬(hv c < b∧n * b+hv c≤65535)):=by
 have h99:=amH c;have hm:((n * b:Nat):Int)=(n:Int) * (b:Int):=Int.natCast_mul n b;obtain⟨x,hx⟩:∃x:Nat,n * b=x:=⟨_,rfl⟩;rw[← hm,hx];by_cases h16:hv c < 16
 ·have e:hp c=(hv c:Int):=by unfold hp;rw[zW h16]
  by_cases hlt:hv c < b
  ·by_cases hs:x+hv c≤65535
   ·exact .inl ⟨_,e,zy,zy,zy,zy,zy,hlt,hs⟩
   ·exact .inr (.inl ⟨_,e,zy,zy,zy,zy,zy⟩)
  ·exact .inr (.inr (.inl ⟨_,e,zy,zy,zy,zy⟩))
 ·have e:hp c= -1:=by unfold hp;rw[za h16]
  exact .inr (.inr (.inr ⟨_,e,zy,zy,zy⟩))
theorem adw {b n:Nat}(hb:2≤b∧b≤16)(hn:n≤65535):0≤(n:Int) * (b:Int)∧(n:Int) * (b:Int)≤1048560:=by
 have h:=Nat.mul_le_mul hn hb.2;have hm:((n * b:Nat):Int)=(n:Int) * (b:Int):=Int.natCast_mul n b;omega
theorem Vg {b n k:Nat}{l:List UInt8}{c:UInt8}(h:lQ b 0 (l.take k)=some n)(hc:l[k]? =some c)(h1:hv c < b)(h2:n * b+hv c≤65535):lQ b 0 (l.take (k+1))=some (n * b+hv c):=by
 rw[take_at hc,Ha,h];exact zW ⟨h1,h2⟩
theorem Am {b n k:Nat}{l:List UInt8}{c:UInt8}(h:lQ b 0 (l.take k)=some n)(hc:l[k]? =some c)(h1:¬(hv c < b∧n * b+hv c≤65535)):gU b l=none:=by
 refine U5 (k:=k+1) ?_;rw[take_at hc,Ha,h];exact za h1
theorem U4 {b n k:Nat}{l:List UInt8}(h:lQ b 0 (l.take k)=some n)(hk:l.length≤k)(h0:l≠[]):gU b l=some n:=by
 unfold gU;rw[za h0];rw[yn hk] at h;exact h
theorem QM (b:Nat)(hb2:2≤(b:Int))(auV:(b:Int)≤16)(s:ByteArray)(w:World)(hs:s.size≤140737488355328):
 Calls Tryz.prog 220 #[.string s,.int .i64 (b:Int)] w fun e w'=>e= .returned (dgV (gU b s.data.toList))∧w=w':=by
 obtain⟨l,hl⟩:∃l,s.data.toList=l:=⟨_,rfl⟩;have HL:Hid (l.length=s.size):=by rw[Hid,← hl];exact bF s
 have HA:Hid (∀k (h:k < s.size),∃c:UInt8,s[k]=c∧l[k]? =some c):=by subst hl;exact fun k h=>rE s h
 have HB:Hid (2≤b∧b≤16):=⟨zy,zy⟩;rw[hl];have HE:Hid (s.toList.isEmpty=decide (l=[])):=by subst hl;exact ql s
 clear hl;go_enter Tryz.func220,Tryz.ntmps220;go_wp2
 go_loop [6,11] (fun u v=>∃k n:Nat,k≤s.size∧(n:Int)≤65535∧v= .int .i64 k∧u= .int .i64 n∧Hid (lQ b 0 (l.take k)=some n)) (fun _ v=>s.size - (intOf v).toNat)
 case atStart=>exact⟨0,0,zF _,zy,rfl,rfl,rfl⟩
 case round=>
  obtain⟨k,n,hk,hn,rfl,rfl,hA⟩:=hrel;by_cases hlt:k < s.size
  ·obtain⟨c,hc,hlc⟩:=HA.out k hlt;obtain⟨hp0,hp1⟩:=adw HB.out (show n≤65535 by omega)
   have HC:=zo hlc;clear hlc;rcases QN b n c HB.out zy with⟨d,hd,h0,h1,h2,h3,h4,h5,h6⟩|⟨d,hd,h0,h1,h2,h3,h4⟩|⟨d,hd,h0,h1,h2,h3⟩|⟨d,hd,h0,h1,h2⟩
   ·have C:=zo (J5 c w);rw[hd] at C;have H4:=zo h4;have H5:=zo h5;have H6:=zo h6;clear hd h4 h5 h6
    go_wp2_with (go_at_call 155;refine C.mono ?_;rintro e w' ⟨rfl,rfl⟩)
    go_round
    case rel=>exact⟨k+1,n * b+hv c,zy,by have:=H6.out;omega,by go_num,by rw[H4.out],Vg hA.out HC.out H5.out H6.out⟩
    case measure=>simp[intOf];omega
   ·have C:=zo (J5 c w);rw[hd] at C;have HN:Hid (gU b l=none):=Am hA.out HC.out h4;clear hd h4
    go_wp2_with (go_at_call 155;refine C.mono ?_;rintro e w' ⟨rfl,rfl⟩)
    go_ret2;exact⟨by rw[HN.out];rfl,rfl⟩
   ·have C:=zo (J5 c w);rw[hd] at C;have HN:Hid (gU b l=none):=Am hA.out HC.out h3;clear hd h3
    go_wp2_with (go_at_call 155;refine C.mono ?_;rintro e w' ⟨rfl,rfl⟩)
    go_ret2;exact⟨by rw[HN.out];rfl,rfl⟩
   ·have C:=zo (J5 c w);rw[hd] at C;have HN:Hid (gU b l=none):=Am hA.out HC.out h2;clear hd h2
    go_wp2_with (go_at_call 155;refine C.mono ?_;rintro e w' ⟨rfl,rfl⟩)
    go_ret2;exact⟨by rw[HN.out];rfl,rfl⟩
  ·by_cases h0:l=[]
   ·have d1:s.toList.isEmpty=true:=by rw[HE.out];simpa using h0
    have HN:Hid (gU b l=none):=by subst h0;rfl
    have hk0:n=0:=by
     have:=hA.out;subst h0
     simpa [lQ] using this.symm
    have HK:=zo hk0;clear h0 hk0;go_wp2;go_ret2;exact⟨by rw[HN.out];simp[dgV,HK.out],rfl⟩
   ·have d1:s.toList.isEmpty=false:=by rw[HE.out];simpa using h0
    have HN:Hid (gU b l=some n):=U4 hA.out (by have:=HL.out;omega) h0
    clear h0;go_wp2;go_ret2;exact⟨by rw[HN.out];rfl,rfl⟩
theorem PY (m:ByteArray)(w:World):Calls Tryz.prog 282 #[.string m] w fun e w'=>e= .returned (.func (.func 342) #[] #[.pointer (some ⟨w.heap.size,0,none⟩)])∧w.alloc (.cells #[.string m] 9)=w':=by
 go_enter Tryz.func282,Tryz.ntmps282;go_wp2;go_ret;exact⟨rfl,rfl⟩
theorem Dh (m:ByteArray)(w:World):Calls Tryz.prog 284 #[.string m] w fun e w'=>e= .returned (.func (.func 343) #[] #[.pointer (some ⟨w.heap.size,0,none⟩)])∧w.alloc (.cells #[.string m] 9)=w':=by
 go_enter Tryz.func284,Tryz.ntmps284;go_wp2;go_ret;exact⟨rfl,rfl⟩
theorem aaY (s:ByteArray)(w:World):Calls Tryz.prog 281 #[.string s] w fun e w'=>e= .returned (.tuple #[.string s,.bool true])∧w=w':=by
 go_enter Tryz.func281,Tryz.ntmps281;go_wp2;go_ret2;exact⟨rfl,rfl⟩
theorem ES (s m:ByteArray)(g:Nat)(w:World)(hs:(s.size:Int)≤140737488355328)(hc:w.cell? ⟨g,0,none⟩=some (.string m)):
 Calls Tryz.prog 342 #[.string s,.pointer (some ⟨g,0,none⟩)] w fun e w'=>e= .returned (.tuple #[.string ⟨(Lib.trimPrefix (s.data.toList.map gQ) m.data.toList).toArray⟩,.bool (Lib.hasPrefix (s.data.toList.map gQ) m.data.toList)])∧Below w.heap.size w w':=by
 have hlt:=lt_of_cell hc;have CU:Hid (∀W:World,Calls Tryz.prog 45 #[.string s] W fun e w'=>e= .returned (.string ⟨(s.data.toList.map gQ).toArray⟩)∧Below W.heap.size W w'):=fun W=>jU s W (by unfold maxLen;omega)
 obtain⟨U,hU⟩:∃U:ByteArray,(⟨(s.data.toList.map gQ).toArray⟩:ByteArray)=U:=⟨_,rfl⟩;have hl:s.data.toList.map gQ=U.data.toList:=by rw[← hU]
 rw[hU] at CU;rw[hl];have CP:Hid (∀W:World,Calls Tryz.prog 214 #[.string U,.string m] W fun e w'=>e= .returned (.tuple #[.string ⟨(Lib.trimPrefix U.data.toList m.data.toList).toArray⟩,.bool (Lib.hasPrefix U.data.toList m.data.toList)])∧w'=W):=fun W=>Tryz.strings_CutPrefix U m W
 obtain⟨D,hD⟩:∃D:ByteArray,(⟨(Lib.trimPrefix U.data.toList m.data.toList).toArray⟩:ByteArray)=D:=⟨_,rfl⟩;obtain⟨ok,hok⟩:∃ok,Lib.hasPrefix U.data.toList m.data.toList=ok:=⟨_,rfl⟩;rw[hD,hok] at CP;rw[hD,hok];clear hU hl hD hok hs;go_enter Tryz.func342,Tryz.ntmps342;go_wp2
 go_region_held3 (fun w'=>w'.cell? ⟨g,0,none⟩=some (.string m)) (go_keep)
  (first
    |(go_at_call 45;refine (CU.out _).mono ?_;rintro e w1 ⟨rfl,hb⟩;have B1:=zo hb;have q0:w1.cell? ⟨g,0,none⟩=some (.string m):=(hb.cell (p:=⟨g,0,none⟩) hlt).trans hc;clear hb)
    |(go_at_call 214;refine (CP.out _).mono ?_;rintro e w2 ⟨rfl,rfl⟩))
 all_goals
  go_wp2;go_ret2;exact⟨rfl,(zh w.heap.size w).drew.trans B1.out⟩
theorem Oc (s m:ByteArray)(g:Nat)(w:World)(hs:(s.size:Int)≤140737488355328)(hc:w.cell? ⟨g,0,none⟩=some (.string m)):
 Calls Tryz.prog 343 #[.string s,.pointer (some ⟨g,0,none⟩)] w fun e w'=>e= .returned (.tuple #[.string ⟨(Lib.trimSuffix (s.data.toList.map gQ) m.data.toList).toArray⟩,.bool (Lib.hasSuffix (s.data.toList.map gQ) m.data.toList)])∧Below w.heap.size w w':=by
 have hlt:=lt_of_cell hc;have CU:Hid (∀W:World,Calls Tryz.prog 45 #[.string s] W fun e w'=>e= .returned (.string ⟨(s.data.toList.map gQ).toArray⟩)∧Below W.heap.size W w'):=fun W=>jU s W (by unfold maxLen;omega)
 obtain⟨U,hU⟩:∃U:ByteArray,(⟨(s.data.toList.map gQ).toArray⟩:ByteArray)=U:=⟨_,rfl⟩;have hl:s.data.toList.map gQ=U.data.toList:=by rw[← hU]
 have hUs:U.size=s.size:=by rw[← bF,← hl,zI,bF]
 rw[hU] at CU;rw[hl];have CP:Hid (∀W:World,Calls Tryz.prog 344 #[.string U,.string m] W fun e w'=>e= .returned (.tuple #[.string ⟨(Lib.trimSuffix U.data.toList m.data.toList).toArray⟩,.bool (Lib.hasSuffix U.data.toList m.data.toList)])∧w'=W):=fun W=>Tryz.strings_CutSuffix U m W zy
 obtain⟨D,hD⟩:∃D:ByteArray,(⟨(Lib.trimSuffix U.data.toList m.data.toList).toArray⟩:ByteArray)=D:=⟨_,rfl⟩;obtain⟨ok,hok⟩:∃ok,Lib.hasSuffix U.data.toList m.data.toList=ok:=⟨_,rfl⟩;rw[hD,hok] at CP;rw[hD,hok];clear hU hl hD hok hs hUs;go_enter Tryz.func343,Tryz.ntmps343;go_wp2
 go_region_held3 (fun w'=>w'.cell? ⟨g,0,none⟩=some (.string m)) (go_keep)
  (first
    |(go_at_call 45;refine (CU.out _).mono ?_;rintro e w1 ⟨rfl,hb⟩;have B1:=zo hb;have q0:w1.cell? ⟨g,0,none⟩=some (.string m):=(hb.cell (p:=⟨g,0,none⟩) hlt).trans hc;clear hb)
    |(go_at_call 344;refine (CP.out _).mono ?_;rintro e w2 ⟨rfl,rfl⟩))
 all_goals
  go_wp2;go_ret2;exact⟨rfl,(zh w.heap.size w).drew.trans B1.out⟩
def hok:List UInt8→Bool
 |[]=>false
 |c::_=>decide (c.toNat≤57)
theorem alJ (s:ByteArray)(w:World)(hs:(s.size:Int)≤140737488355328):
 Calls Tryz.prog 343 #[.string s,.pointer (some ⟨w.heap.size,0,none⟩)] (w.alloc (.cells #[.string ⟨#[72]⟩] 9)) fun e w'=>e= .returned (.tuple #[.string ⟨(Lib.trimSuffix (s.data.toList.map gQ) [72]).toArray⟩,.bool (Lib.hasSuffix (s.data.toList.map gQ) [72])])∧Below w.heap.size w w':=
 (Oc s ⟨#[72]⟩ w.heap.size (w.alloc (.cells #[.string ⟨#[72]⟩] 9)) hs (by unfold World.cell?;simp only[heap_alloc_new];rfl)).mono fun e w' ⟨h1,h2⟩=>⟨h1,((zh _ _).alloc (zn _) _).trans (h2.mono zw)⟩
theorem aaX (s:ByteArray)(w:World)(hs:(s.size:Int)≤140737488355328):
 Calls Tryz.prog 283 #[.string s] w fun e w'=>e= .returned (.tuple #[.string ⟨(Lib.trimSuffix (s.data.toList.map gQ) [72]).toArray⟩,.bool (Lib.hasSuffix (s.data.toList.map gQ) [72] && hok (Lib.trimSuffix (s.data.toList.map gQ) [72]))])∧Below w.heap.size w w':=by
 have CS:=zo (alJ s w hs);have CM:Hid (∀W:World,Calls Tryz.prog 284 #[.string ⟨#[72]⟩] W fun e w'=>e= .returned (.func (.func 343) #[] #[.pointer (some ⟨W.heap.size,0,none⟩)])∧W.alloc (.cells #[.string ⟨#[72]⟩] 9)=w'):=fun W=>Dh _ W
 obtain⟨D,hD⟩:∃D:ByteArray,(⟨(Lib.trimSuffix (s.data.toList.map gQ) [72]).toArray⟩:ByteArray)=D:=⟨_,rfl⟩;have hl:Lib.trimSuffix (s.data.toList.map gQ) [72]=D.data.toList:=by rw[← hD]
 obtain⟨ok,hok'⟩:∃ok,Lib.hasSuffix (s.data.toList.map gQ) [72]=ok:=⟨_,rfl⟩;rw[hD,hok'] at CS;rw[hD,hok',hl];clear hD hl hok' hs
 cases ok with
 |false=>
  rw[Bool.false_and];go_enter Tryz.func283,Tryz.ntmps283
  go_wp2_with (first
   |(go_at_call 284;refine (CM.out _).mono ?_;rintro e w1 ⟨rfl,rfl⟩)
   |(go_at_call 343;refine CS.mono ?_;rintro e w2 ⟨rfl,hb⟩;have B2:=zo hb;clear hb))
  go_region
  go_wp2;go_ret2;exact⟨rfl,B2.drew⟩
 |true=>
  rw[Bool.true_and];have he:=ql D
  cases hc:D.data.toList with
  |nil=>
   rw[hc,zC rfl] at he;have HK:Hid (hok ([]:List UInt8)=false):=rfl;rw[HK.out];clear hc;go_enter Tryz.func283,Tryz.ntmps283
   go_wp2_with (first
    |(go_at_call 284;refine (CM.out _).mono ?_;rintro e w1 ⟨rfl,rfl⟩)
    |(go_at_call 343;refine CS.mono ?_;rintro e w2 ⟨rfl,hb⟩;have B2:=zo hb;clear hb))
   go_region
   go_wp2;go_ret2;exact⟨rfl,B2.drew⟩
  |cons c r=>
   rw[hc,zN zw] at he;have h0:0 < D.size:=by rw[← bF,hc];simp
   have hz:D[0]=c:=by
    obtain⟨c',h1,h2⟩:=rE D h0;rw[hc] at h2;rw[h1,← zq h2]
   obtain⟨y,hy⟩:∃y:Int,(c.toNat:Int)=y:=⟨_,rfl⟩;obtain⟨x,hx⟩:∃x:Bool,hok (c::r)=x:=⟨_,rfl⟩
   have d1:decide (y≤57)=x:=by
    rw[← hx,← hy];unfold hok;simp only[decide_eq_decide];omega
   rw[hx];clear hc hx;go_enter Tryz.func283,Tryz.ntmps283
   go_wp2_with (first
    |(go_at_call 284;refine (CM.out _).mono ?_;rintro e w1 ⟨rfl,rfl⟩)
    |(go_at_call 343;refine CS.mono ?_;rintro e w2 ⟨rfl,hb⟩;have B2:=zo hb;clear hb))
   go_region
   go_wp2;go_ret2;exact⟨rfl,B2.drew⟩
def lX (l:List UInt8):Nat→List UInt8×Bool
 |0=>(l,true)
 |1=>(Lib.trimPrefix (l.map gQ) [48,88],Lib.hasPrefix (l.map gQ) [48,88])
 |2=>(Lib.trimPrefix (l.map gQ) [36],Lib.hasPrefix (l.map gQ) [36])
 |3=>(Lib.trimSuffix (l.map gQ) [72],Lib.hasSuffix (l.map gQ) [72] && hok (Lib.trimSuffix (l.map gQ) [72]))
 |4=>(Lib.trimSuffix (l.map gQ) [66],Lib.hasSuffix (l.map gQ) [66])
 |_=>(Lib.trimPrefix (l.map gQ) [37],Lib.hasPrefix (l.map gQ) [37])
def agJ:Nat→Nat
 |0=>10
 |1=>16
 |2=>16
 |3=>16
 |_=>2
def rZ (l:List UInt8)(k:Nat):Option Nat:=if (lX l k).2 then gU (agJ k) (lX l k).1 else none
def oq (l:List UInt8):Option Nat:=(List.range 6).findSome? (rZ l)
theorem UL {l:List UInt8}(h:∀j,j < 6→rZ l j=none):oq l=none:=by
 unfold oq;rw[List.findSome?_eq_none_iff];intro x hx;exact h x (yS.1 hx)
theorem jc {l:List UInt8}{k n:Nat}(hk:k < 6)(h:∀j,j < k→rZ l j=none)(hn:rZ l k=some n):oq l=some n:=by
 unfold oq;rw[show (6:Nat)=k+(1+(5 - k)) from by omega,List.range_add,List.findSome?_append,List.findSome?_eq_none_iff.2 (fun x hx=>h x (yS.1 hx)),List.range_add]
 simp[hn,List.range_succ]
theorem tried {l:List UInt8}{k:Nat}(h:∀j,j < k→rZ l j=none)(hk:rZ l k=none):Hid (∀j,j < k+1→rZ l j=none):=fun j hj=>by
 by_cases e:j=k
 ·rw[e];exact hk
 ·exact h j zy
def ji (g:Nat):Array Value:=#[.int .i64 10,.func (.func 281) #[] #[],.int .i64 16,.func (.func 342) #[] #[.pointer (some ⟨g,0,none⟩)],.int .i64 16,.func (.func 342) #[] #[.pointer (some ⟨g+1,0,none⟩)],.int .i64 16,.func (.func 283) #[] #[],.int .i64 2,.func (.func 343) #[] #[.pointer (some ⟨g+2,0,none⟩)],.int .i64 2,.func (.func 342) #[] #[.pointer (some ⟨g+3,0,none⟩)]]
def iK (w:World):World:=(((((w.alloc (.cells #[.string ⟨#[48,88]⟩] 9)).alloc (.cells #[.string ⟨#[36]⟩] 9)).alloc (.cells #[.string ⟨#[66]⟩] 9)).alloc (.cells #[.string ⟨#[37]⟩] 9)).alloc (.cells (ji w.heap.size) 333))
theorem VO (w:World):Calls Tryz.prog 219 #[] w fun e w'=>e= .returned (.slice (some ⟨w.heap.size+4,0,none⟩) 6 6)∧iK w=w':=by
 have CP:Hid (∀(m:ByteArray) (W:World),Calls Tryz.prog 282 #[.string m] W fun e w'=>e= .returned (.func (.func 342) #[] #[.pointer (some ⟨W.heap.size,0,none⟩)])∧W.alloc (.cells #[.string m] 9)=w'):=fun m W=>PY m W
 have CS:Hid (∀(m:ByteArray) (W:World),Calls Tryz.prog 284 #[.string m] W fun e w'=>e= .returned (.func (.func 343) #[] #[.pointer (some ⟨W.heap.size,0,none⟩)])∧W.alloc (.cells #[.string m] 9)=w'):=fun m W=>Dh m W
 go_enter Tryz.func219,Tryz.ntmps219
 go_wp2_with (first
  |(go_at_call 282;refine (CP.out _ _).mono ?_;rintro e w1 ⟨rfl,rfl⟩)
  |(go_at_call 284;refine (CS.out _ _).mono ?_;rintro e w1 ⟨rfl,rfl⟩))
 go_ret;exact⟨zw,by simp[iK,ji]⟩
end
section
def aeu (c:UInt8):Bool:=decide (65≤c.toNat∧c.toNat≤90) || decide (97≤c.toNat∧c.toNat≤122)
def aiJ (c:UInt8):Bool:=c == 95 || c == 46 || c == 63 || c == 64
def Cu (c:UInt8):Bool:=aeu c || aiJ c
def kS (c:UInt8):Bool:=decide (48≤c.toNat∧c.toNat≤57)
def iO (c:UInt8):Bool:=Cu c || kS c
def Ap (c:UInt8):Bool:=c == 32 || c == 9
def aY:List UInt8→Nat
 |[]=>0
 |c::r=>if iO c then aY r+1 else 0
theorem mf:∀l:List UInt8,aY l≤l.length
 |[]=>zn _
 |c::r=>by
  unfold aY;split
  ·have:=mf r;simp;omega
  ·simp
def ZG (l:List UInt8):Bool:=l.map gQ == [65,70]
def eB:List UInt8→Nat
 |[]=>0
 |c::r=>if Cu c then
   (if ZG ((c::r).take (aY (c::r))) && (c::r)[aY (c::r)]? == some 39 then aY (c::r)+1 else aY (c::r))
  else 0
theorem fJ (c:UInt8)(r:List UInt8):eB (c::r)=if Cu c then
 (if ZG ((c::r).take (aY (c::r))) && (c::r)[aY (c::r)]? == some 39 then aY (c::r)+1 else aY (c::r))
 else 0:=rfl
def jg:List UInt8→Bool
 |[]=>false
 |c::r=>kS c || c == 37 || (c == 36 && decide (0 < aY r))
def quo (m:UInt8):List UInt8→Option (List UInt8×Nat)
 |[]=>none
 |c::r=>
  if c=m then
   match r with
   |[]=>some ([],1)
   |d::r'=>if d=m then (quo m r').map fun p=>(c::p.1,p.2+2) else some ([],1)
  else (quo m r).map fun p=>(c::p.1,p.2+1)
def jM:List UInt8:=[44,40,41,43,45,42,47,38,124,94,126,58,61,36]
def dn:List UInt8→Nat
 |[]=>0
 |c::r=>if (c::r).take 2=[60,60]∨(c::r).take 2=[62,62] then 2 else if c∈jM then 1 else 0
theorem ny (c:UInt8)(r:List UInt8):dn (c::r)=if (c::r).take 2=[60,60]∨(c::r).take 2=[62,62] then 2 else if c∈jM then 1 else 0:=rfl
structure Tk where
 kind:Nat
 text:List UInt8
 n:Nat
 at_:Nat
 deriving DecidableEq
def apH (l:List UInt8)(k:Nat):Except Nat (Tk×Nat):=
 if 0 < eB l then .ok (⟨1,l.take (eB l),0,k⟩,eB l)
 else if jg l then
  match oq (l.take (1+aY (l.drop 1))) with
  |some v=>.ok (⟨2,[],v,k⟩,1+aY (l.drop 1))
  |none=>.error 3
 else
  match l with
  |[]=>.error 20
  |c::r=>
   if c=34∨c=39 then
    match quo c r with
    |some p=>.ok (⟨3,p.1,0,k⟩,p.2+1)
    |none=>.error 3
   else if dn (c::r)=0 then .error 20 else .ok (⟨4,(c::r).take (dn (c::r)),0,k⟩,dn (c::r))
def aR:List UInt8→Nat
 |[]=>0
 |c::r=>if Ap c then aR r+1 else 0
theorem BM:∀l:List UInt8,aR l≤l.length
 |[]=>zn _
 |c::r=>by
  unfold aR;split
  ·have:=BM r;simp;omega
  ·simp
def qY:List UInt8→Bool
 |[]=>true
 |c::_=>c == 59
def toks:Nat→List UInt8→Nat→Except Nat (List Tk)
 |0,_,_=>.error 99
 |f+1,l,k=>
  if qY (l.drop (aR l)) then .ok [⟨0,[],0,k+aR l⟩]
  else
   match apH (l.drop (aR l)) (k+aR l) with
   | .error e=>.error e
   | .ok p=>
     match toks f ((l.drop (aR l)).drop p.2) (k+aR l+p.2) with
     | .error e=>.error e
     | .ok ts=>.ok (p.1::ts)
def tokens (l:List UInt8):Except Nat (List Tk):=if 1024 < l.length then .error 19 else toks (l.length+1) l 0
theorem O6 (l:List UInt8):eB l≤l.length:=by
 cases l with
 |nil=>simp[eB]
 |cons c r=>
  rw[fJ];split
  ·split
   ·rename_i h2;rw[xk,beq_iff_eq] at h2;exact (zf.1 h2.2).1
   ·exact mf _
  ·simp
theorem Dk (l:List UInt8):dn l≤l.length:=by
 cases l with
 |nil=>simp[dn]
 |cons c r=>
  rw[ny];split
  ·rename_i h;have:((c::r).take 2).length=2:=by rcases h with h|h<;>rw[h]<;>rfl
   rw[zJ] at this;omega
  ·split<;>simp
end
section
open Go.RowKit
theorem aka:∀n:Fin 256,(65≤bits .andNot .u8 (n.val:Int) 32∧bits .andNot .u8 (n.val:Int) 32≤90↔aeu (UInt8.ofNat n.val)=true)∧0≤bits .andNot .u8 (n.val:Int) 32∧bits .andNot .u8 (n.val:Int) 32≤255:=by decide+kernel
theorem anW (c:UInt8):∃z:Int,bits .andNot .u8 (c.toNat:Int) 32=z∧0≤z∧z≤255∧(65≤z∧z≤90↔aeu c=true):=by
 have:=aka ⟨c.toNat,c.toNat_lt⟩;rw[show UInt8.ofNat (⟨c.toNat,c.toNat_lt⟩:Fin 256).val=c from by simp] at this
 exact⟨_,rfl,this.2.1,this.2.2,this.1⟩
def ptL:List UInt8:=[95,46,63,64]
theorem ahO:∀n:Fin 256,decide (0≤Lib.indexByte ptL (UInt8.ofNat n.val))=aiJ (UInt8.ofNat n.val):=by decide+kernel
theorem al1 (c:UInt8):decide (0≤Lib.indexByte ptL c)=aiJ c:=by
 have:=ahO ⟨c.toNat,c.toNat_lt⟩;rw[show UInt8.ofNat (⟨c.toNat,c.toNat_lt⟩:Fin 256).val=c from by simp] at this
 exact this
theorem alZ (c:UInt8)(w:World):Calls Tryz.prog 155 #[.string ⟨#[95,46,63,64]⟩,.int .u8 (c.toNat:Int)] w fun e w'=>e= .returned (.int .i64 (Lib.indexByte ptL c))∧w=w':=by
 refine (Tryz.strings_IndexByte ⟨#[95,46,63,64]⟩ (c.toNat:Int) w).mono fun e w' ⟨he,hw⟩=>⟨?_,hw.symm⟩
 rw[he];have e2:((c.toNat:Int).toNat).toUInt8=c:=zw;rw[e2];rfl
theorem Bz (c:UInt8)(w:World):Calls Tryz.prog 151 #[.int .u8 (c.toNat:Int)] w fun e w'=>e= .returned (.bool (Cu c))∧w=w':=by
 obtain⟨z,hz,h0,h1,h2⟩:=anW c;have CI:Hid (Calls Tryz.prog 155 #[.string ⟨#[95,46,63,64]⟩,.int .u8 (c.toNat:Int)] w fun e w'=>e= .returned (.int .i64 (Lib.indexByte ptL c))∧w=w'):=alZ c w
 obtain⟨i,hi⟩:∃i,Lib.indexByte ptL c=i:=⟨_,rfl⟩;have hp:=al1 c;rw[hi] at CI hp;by_cases ha:aeu c=true
 ·have HB:Hid (Cu c=true):=by show _=_;unfold Cu;rw[ha];rfl
  obtain⟨k0,k1⟩:=h2.2 ha;rw[HB.out];clear h2 ha hp hi;go_enter Tryz.func151,Tryz.ntmps151;go_wp2;go_ret;exact⟨rfl,rfl⟩
 ·have HB:Hid (Cu c=decide (0≤i)):=by show _=_;unfold Cu;rw[hp,wU.2 ha];rfl
  have k:z < 65∨90 < z:=by
   rcases Int.lt_or_le z 65 with h|h
   ·exact .inl h
   ·rcases Int.lt_or_le 90 z with h'|h'
    ·exact .inr h'
    ·exact absurd (h2.1 ⟨h,h'⟩) ha
  rw[HB.out];clear h2 ha hp hi;rcases k with k|k
  all_goals
   go_enter Tryz.func151,Tryz.ntmps151
   go_wp2_with (go_at_call 155;refine CI.mono ?_;rintro e w' ⟨rfl,rfl⟩)
   go_ret
   first
    |exact⟨rfl,rfl⟩
    |exact⟨dz (by rw[zN (show ¬z≤90 by omega)];rfl),rfl⟩
theorem VC (c:UInt8):(kS c=true∧48≤(c.toNat:Int)∧(c.toNat:Int)≤57)∨(kS c=false∧(c.toNat:Int) < 48)∨(kS c=false∧57 < (c.toNat:Int)):=by
 unfold kS;by_cases h:48≤c.toNat∧c.toNat≤57
 ·exact .inl ⟨zC h,zy,zy⟩
 ·rcases zP c.toNat 48 with h'|h'
  ·exact .inr (.inl ⟨zN h,zy⟩)
  ·exact .inr (.inr ⟨zN h,zy⟩)
theorem Ba (c:UInt8)(w:World):Calls Tryz.prog 153 #[.int .u8 (c.toNat:Int)] w fun e w'=>e= .returned (.bool (kS c))∧w=w':=by
 rcases VC c with⟨h,h0,h1⟩|⟨h,h0⟩|⟨h,h0⟩
 all_goals
  rw[h];clear h;go_enter Tryz.func153,Tryz.ntmps153;go_wp2;go_ret
  first
   |exact⟨rfl,rfl⟩
   |exact⟨dz (zC zy),rfl⟩
   |exact⟨dz (zN zy),rfl⟩
def l6 (l:List UInt8)(k:Nat):UInt8:=l[k]?.getD 0
theorem tu (l:List UInt8)(k:Nat):l6 l k=(l.drop k).head?.getD 0:=by simp[l6]
theorem jv (b o k:Nat)(s:ByteArray)(w:World)(_:(s.size:Int)≤140737488355328)(hk:k≤s.size)(h0:w.cell? ⟨b,o,none⟩=some (.string s))(h1:w.cell? ⟨b,o+1,none⟩=some (.int .i64 (k:Int))):
 Calls Tryz.prog 83 #[.pointer (some ⟨b,o,none⟩)] w fun e w'=>e= .returned (.int .u8 ((l6 s.data.toList k).toNat:Int))∧∃m,w'=w.drewN m:=by
 by_cases hlt:k < s.size
 ·obtain⟨c,hc,hl⟩:=rE s hlt;have HC:Hid (l6 s.data.toList k=c):=by show _=_;unfold l6;rw[hl];rfl
  rw[HC.out];clear hl;have hki:(k:Int) < (s.size:Int):=zy;go_enter Tryz.func83,Tryz.ntmps83;go_wp2;go_quiet (fail);go_wp2;go_quiet (fail);go_wp2;go_ret;exact⟨rfl,_,World.drewN_drewN _ _ _⟩
 ·have HC:Hid (l6 s.data.toList k=0):=by show _=_;unfold l6;rw[yo (by rw[bF];omega)];rfl
  rw[HC.out];have hki:(s.size:Int)≤(k:Int):=zy;go_enter Tryz.func83,Tryz.ntmps83;go_wp2;go_quiet (fail);go_wp2;go_ret;exact⟨rfl,_,rfl⟩
theorem Ya (b o k:Nat)(s:ByteArray)(w:World)(_:(s.size:Int)≤140737488355328)(hk:(k:Int)≤(s.size:Int))(h0:w.cell? ⟨b,o,none⟩=some (.string s))(h1:w.cell? ⟨b,o+1,none⟩=some (.int .i64 (k:Int))):
 Calls Tryz.prog 156 #[.pointer (some ⟨b,o,none⟩)] w fun e w'=>e= .returned (.string (s.extract k s.size))∧∃m,w'=w.drewN m:=by
 go_enter Tryz.func156,Tryz.ntmps156;go_wp2;go_quiet (fail);go_wp2;go_ret;exact⟨rfl,_,rfl⟩
end
