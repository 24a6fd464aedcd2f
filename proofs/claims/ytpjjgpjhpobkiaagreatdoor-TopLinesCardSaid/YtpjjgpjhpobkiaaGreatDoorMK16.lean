/- The walk of the reference's First: the short cases. -/
import Derived.Test.YtpjjgpjhpobkiaaGreatDoorMK9
import Derived.Test.YtpjjgpjhpobkiaaGreatDoorMYb
set_option maxHeartbeats 8000000
set_option maxRecDepth 100000
namespace Go.Proofs.YtpjjgpjhpobkiaaGreatDoor
open Go.RowKit Go.Shelf Ex
theorem GJ {z:Int}(_h0:0≤z)(_h1:z < 256)(w:World):Calls Tryz.prog 36 #[.int .u8 z] w fun e w'=>e= .returned (.int .i64 (qo z))∧w=w':=by
 by_cases h:128≤z
 ·have e:qo z=z - 256:=zW h;have hw:wrap64 (z - 256)=z - 256:=IntWalk.wrap64_in _ zy;rw[e];go_enter Tryz.func36,Tryz.ntmps36;go_wp2;go_ret;exact⟨rfl,rfl⟩
 ·have e:qo z=z:=za h;rw[e];go_enter Tryz.func36,Tryz.ntmps36;go_wp2;go_ret;exact⟨rfl,rfl⟩
def KW (l:List UInt8)(w:World)(e:Ending)(w':World):Prop:=∃x:jY,x.1=dec l∧e= .returned (.agg (jX x).toArray)∧Lr w.heap.size w' x∧Below w.heap.size w w'
def WE (w:World)(l:List UInt8)(N:Nat)(A:Option Addr)(c:Nat):Prop:=∀(k n:Nat) W,n≤N→Below w.heap.size w W→Calls Tryz.prog 33 #[.int .i64 (k:Int),.slice A N c,.int .i64 (n:Int)] W fun e w'=>∃A' c',e= .returned (.agg #[.int .i64 (k:Int),.slice A' n c',.string ⟨#[]⟩,.slice none 0 0,.bool false])∧Rd w' (fun i=>W.heap.size≤i) A' (bs (l.take n))∧Below W.heap.size W w'
theorem apM {w:World}{l:List UInt8}(hm:l.length≤1000){A:Option Addr}{c:Nat}(hc:l.length≤c){q:Nat→Prop}(hr:Rd w q A (bs l)):WE w l l.length A c:=fun k n _ hn hb=>UG k n hn hm hc (hr.after hb)
def WC (w:World)(p a N:Nat)(A:Option Addr)(c:Nat):Prop:=∀W,Below w.heap.size w W→Calls Tryz.prog 32 #[.slice A N c] W fun e w'=>e= .returned (.tuple #[.int .i64 (p:Int),.int .i64 (a:Int)])∧W=w'
theorem apL {w:World}{l:List UInt8}(hl:l≠[])(hm:l.length≤1000){A:Option Addr}{c:Nat}(hc:l.length≤c){q:Nat→Prop}(hr:Rd w q A (bs l)):WC w (l7 l).1 (l7 l).2 l.length A c:=fun _ hb=>UD hl hm hc (hr.after hb)
theorem Ck {w w1 w2 w3:World}{l:List UInt8}{k n c1:Nat}{A1:Option Addr}(hd:dec l=(k,l.take n,[],[],false))(hn:n≤l.length)(hr:Rd w2 (fun i=>w1.heap.size≤i) A1 (bs (l.take n)))(hb:Below w.heap.size w w2)(hw1:w.heap.size+1≤w1.heap.size)(hg:w2.grownBy w3 (some w.heap.size)):
 KW l w (.returned (.agg #[.int .i64 (k:Int),.slice A1 n c1,.string ⟨#[]⟩,.slice none 0 0,.bool false])) w3:=by
 have hlen:(l.take n).length=n:=by rw[zJ];omega
 refine⟨((k,l.take n,[],[],false),A1,c1,none,0),hd.symm,by simp only[jX,hlen];rfl,⟨?_,Rd.nil _ _ _⟩,hb.grown hg hb.size fun r e=>by have:w.heap.size=r:=zq e;omega⟩
 exact (hr.grown hg fun i _ h e=>by have:i=w.heap.size:=zq e;omega).mono fun i _ h=>by omega
theorem PT {w:World}{l:List UInt8}{A:Option Addr}{c N p a:Nat}(hN:l.length=N)(_hm:N≤1000)(CP:Hid (WC w p a N A c))(CI:Hid (WE w l N A c))(_ha:N≤a)(_ha3:a≤3)(hd:dec l=(4,l,[],[],false)):
 Calls Tryz.prog 15 #[.slice A N c] w (KW l w):=by
 have HD:=zo (show dec l=(4,l.take N,[],[],false) by rw[hd,← hN,yH])
 have HN:=zo hN;clear hd hN;have hge:(N:Int)≤(a:Int):=zy;have HB0:=zo ((zh w.heap.size w).alloc (zn _) (.cells #[.int .i64 0,.slice none 0 0,.string ⟨#[]⟩,.slice none 0 0,.bool false] 30));have HK0:=zo (Bk.new w 30 [.int .i64 0,.slice none 0 0,.string ⟨#[]⟩,.slice none 0 0,.bool false]);go_enter Tryz.func15,Tryz.ntmps15
 go_wp2_with (first
  |(go_at_call 32;go_loud (refine (CP.out _ HB0.out).mono ?_;rintro e w1 ⟨rfl,rfl⟩))
  |(go_at_call 33;go_loud (refine (CI.out 4 N _ (zn _) HB0.out).mono ?_;rintro e w2 ⟨A1,c1,rfl,hr,hb⟩;have HR2:=zo hr;have HB2:=zo (HB0.trans (hb.mono HB0.size));have qL:=zo (HK0.after hb);clear hr hb))
  |(refine aN rfl 30 (.tmp 2) (.tmp 25) rfl w.heap.size 0 [.int .i64 4,.slice A1 N c1,.string ⟨#[]⟩,.slice none 0 0,.bool false] rfl rfl 30 _ qL.out rfl zw (by simp[Value.oneCell']) ?_;intro w3 hk3 hg3;have ru:=zo hg3;have y0:=hk3.cell 0 rfl;have y1:=hk3.cell 1 rfl;have y2:=hk3.cell 2 rfl;have y3:=hk3.cell 3 rfl;have y4:=hk3.cell 4 rfl;clear hk3 hg3))
 refine⟨rfl,.agg #[.int .i64 4,.slice A1 N c1,.string ⟨#[]⟩,.slice none 0 0,.bool false],by simp[results,Tryz.results15,go_sem,y0,y1,y2,y3,y4],?_⟩
 exact Ck (k:=4) (n:=N) HD.out (xL HN.symm) HR2.out HB2.out zw ru.out
def akh (w:World)(p o kk:Nat):Prop:=∀W,Below w.heap.size w W→Calls Tryz.prog 34 #[.int .i64 (p:Int),.int .u8 (o:Int)] W fun e w'=>∃(p' o':Int) (nm ex:ByteArray) (al:Bool) (A:Option Addr) (n c:Nat),e= .returned (.tuple #[.agg #[.int .i64 p',.int .u8 o',.string nm,.slice A n c,.string ex,.bool al],.int .i64 (kk:Int)])∧Below W.heap.size W w'
theorem PS {w:World}{l:List UInt8}{A:Option Addr}{c N p a:Nat}{o:UInt8}(hN:l.length=N)(_hm:N≤1000)(CP:Hid (WC w p a N A c))(CI:Hid (WE w l N A c))(ho:l[a]? =some o)(hn:1≤N){q:Nat→Prop}(hr:Rd w q A (bs l))(CA:Hid (akh w p o.toNat 0))(hd:dec l=(2,l.take 1,[],[],false)):
 Calls Tryz.prog 15 #[.slice A N c] w (KW l w):=by
 have HD:=zo hd;have HN:=zo (zM hN hn);have hlt:=(zf.1 ho).1;rw[hN] at hlt;clear hd hN hn;have hge:¬((N:Int)≤(a:Int)):=zy;have hia:(a:Int) < (N:Int):=zy;obtain⟨q1,off,rfl,_,c0⟩:=hr.v (rf ho);have HC:=zo c0;have HB0:=zo ((zh w.heap.size w).alloc (zn _) (.cells #[.int .i64 0,.slice none 0 0,.string ⟨#[]⟩,.slice none 0 0,.bool false] 30));have HK0:=zo (Bk.new w 30 [.int .i64 0,.slice none 0 0,.string ⟨#[]⟩,.slice none 0 0,.bool false]);have c1:=um (.cells #[.int .i64 0,.slice none 0 0,.string ⟨#[]⟩,.slice none 0 0,.bool false] 30) c0;clear hr ho c0;generalize o.toNat=oz at CA HC c1;go_enter Tryz.func15,Tryz.ntmps15
 go_wp2_with (first
  |(go_at_call 32;go_loud (refine (CP.out _ HB0.out).mono ?_;rintro e w1 ⟨rfl,rfl⟩))
  |(go_at_call 34;go_loud (refine (CA.out _ HB0.out).mono ?_;rintro e w1 ⟨p',o',nm,ex,al,A1,n1,c1,rfl,hb⟩;have HB1:=zo (HB0.trans (hb.mono HB0.size));have jq:=zo (HK0.after hb);have HB2:=zo (HB1.alloc HB1.size (.cells #[.int .i64 p',.int .u8 o',.string nm,.slice A1 n1 c1,.string ex,.bool al] 95));have qL:=zo (jq.alloc (.cells #[.int .i64 p',.int .u8 o',.string nm,.slice A1 n1 c1,.string ex,.bool al] 95));clear hb))
  |(go_at_call 33;go_loud (refine (CI.out 2 1 _ HN.2 HB2.out).mono ?_;rintro e w2 ⟨A2,c2,rfl,hr,hb⟩;have HR3:=zo hr;have HB3:=zo (HB2.trans (hb.mono HB2.size));have u7:=zo (qL.after hb);clear hr hb))
  |(refine aN rfl 30 (.tmp 2) (.tmp 39) rfl w.heap.size 0 [.int .i64 2,.slice A2 1 c2,.string ⟨#[]⟩,.slice none 0 0,.bool false] rfl rfl 30 _ u7.out rfl zw (by simp[Value.oneCell']) ?_;intro w3 hk3 hg3;have ru:=zo hg3;have y0:=hk3.cell 0 rfl;have y1:=hk3.cell 1 rfl;have y2:=hk3.cell 2 rfl;have y3:=hk3.cell 3 rfl;have y4:=hk3.cell 4 rfl;clear hk3 hg3))
 refine⟨rfl,.agg #[.int .i64 2,.slice A2 1 c2,.string ⟨#[]⟩,.slice none 0 0,.bool false],by simp[results,Tryz.results15,go_sem,y0,y1,y2,y3,y4],?_⟩
 exact Ck (k:=2) (n:=1) HD.out (by rw[HN.1];exact HN.2) HR3.out HB3.out (by have:=HB1.size;have:=jq.lt;simp;omega) ru.out
theorem Jm {w:World}{l:List UInt8}{A:Option Addr}{c N p a:Nat}{o:UInt8}(hN:l.length=N)(_hm:N≤1000)(CP:Hid (WC w p a N A c))(CI:Hid (WE w l N A c))(ho:l[a]? =some o)(hn:2≤N){q:Nat→Prop}(hr:Rd w q A (bs l))(CA:Hid (akh w p o.toNat 3))(hd:dec l=(3,l.take 2,[],[],false)):
 Calls Tryz.prog 15 #[.slice A N c] w (KW l w):=by
 have HD:=zo hd;have HN:=zo (zM hN hn);have hlt:=(zf.1 ho).1;rw[hN] at hlt;clear hd hN hn;have hge:¬((N:Int)≤(a:Int)):=zy;have hia:(a:Int) < (N:Int):=zy;obtain⟨q1,off,rfl,_,c0⟩:=hr.v (rf ho);have HC:=zo c0;have HB0:=zo ((zh w.heap.size w).alloc (zn _) (.cells #[.int .i64 0,.slice none 0 0,.string ⟨#[]⟩,.slice none 0 0,.bool false] 30));have HK0:=zo (Bk.new w 30 [.int .i64 0,.slice none 0 0,.string ⟨#[]⟩,.slice none 0 0,.bool false]);have c1:=um (.cells #[.int .i64 0,.slice none 0 0,.string ⟨#[]⟩,.slice none 0 0,.bool false] 30) c0;clear hr ho c0;generalize o.toNat=oz at CA HC c1;go_enter Tryz.func15,Tryz.ntmps15
 go_wp2_with (first
  |(go_at_call 32;go_loud (refine (CP.out _ HB0.out).mono ?_;rintro e w1 ⟨rfl,rfl⟩))
  |(go_at_call 34;go_loud (refine (CA.out _ HB0.out).mono ?_;rintro e w1 ⟨p',o',nm,ex,al,A1,n1,c1,rfl,hb⟩;have HB1:=zo (HB0.trans (hb.mono HB0.size));have jq:=zo (HK0.after hb);have HB2:=zo (HB1.alloc HB1.size (.cells #[.int .i64 p',.int .u8 o',.string nm,.slice A1 n1 c1,.string ex,.bool al] 95));have qL:=zo (jq.alloc (.cells #[.int .i64 p',.int .u8 o',.string nm,.slice A1 n1 c1,.string ex,.bool al] 95));clear hb))
  |(go_at_call 33;go_loud (refine (CI.out 3 2 _ HN.2 HB2.out).mono ?_;rintro e w2 ⟨A2,c2,rfl,hr,hb⟩;have HR3:=zo hr;have HB3:=zo (HB2.trans (hb.mono HB2.size));have u7:=zo (qL.after hb);clear hr hb))
  |(refine aN rfl 30 (.tmp 2) (.tmp 43) rfl w.heap.size 0 [.int .i64 3,.slice A2 2 c2,.string ⟨#[]⟩,.slice none 0 0,.bool false] rfl rfl 30 _ u7.out rfl zw (by simp[Value.oneCell']) ?_;intro w3 hk3 hg3;have ru:=zo hg3;have y0:=hk3.cell 0 rfl;have y1:=hk3.cell 1 rfl;have y2:=hk3.cell 2 rfl;have y3:=hk3.cell 3 rfl;have y4:=hk3.cell 4 rfl;clear hk3 hg3))
 refine⟨rfl,.agg #[.int .i64 3,.slice A2 2 c2,.string ⟨#[]⟩,.slice none 0 0,.bool false],by simp[results,Tryz.results15,go_sem,y0,y1,y2,y3,y4],?_⟩
 exact Ck (k:=3) (n:=2) HD.out (by rw[HN.1];exact HN.2) HR3.out HB3.out (by have:=HB1.size;have:=jq.lt;simp;omega) ru.out
def aki (w:World)(p o:Nat)(s:ByteArray)(ex:List Nat)(al:Bool)(L:List aG):Prop:=∀W,Below w.heap.size w W→Calls Tryz.prog 34 #[.int .i64 (p:Int),.int .u8 (o:Int)] W fun e w'=>∃A c,e= .returned (.tuple #[.agg #[.int .i64 (p:Int),.int .u8 (o:Int),.string s,.slice A L.length c,.string (ag ex),.bool al],.int .i64 1])∧Rd w' (fun _=>True) A (dD L)∧Below W.heap.size W w'
def abL (w:World)(p o:Nat)(s:ByteArray)(ex:List Nat)(al:Bool)(L:List aG):Prop:=∀A c W,Below w.heap.size w W→Calls Tryz.prog 35 #[.agg #[.int .i64 (p:Int),.int .u8 (o:Int),.string s,.slice A L.length c,.string (ag ex),.bool al]] W fun e w'=>e= .returned (.int .i64 (Po p ex:Nat))∧Below W.heap.size W w'
theorem Mk {w:World}{l:List UInt8}{A:Option Addr}{c N p a:Nat}{o:UInt8}{s:ByteArray}{ex:List Nat}{al:Bool}{L:List aG}(hN:l.length=N)(_hm:N≤1000)(CP:Hid (WC w p a N A c))(CI:Hid (WE w l N A c))(ho:l[a]? =some o){q:Nat→Prop}(hr:Rd w q A (bs l))(CA:Hid (aki w p o.toNat s ex al L))(CS:Hid (abL w p o.toNat s ex al L))(hs:N < Po p ex)(hd:dec l=(4,l,[],[],false)):
 Calls Tryz.prog 15 #[.slice A N c] w (KW l w):=by
 have HD:=zo (show dec l=(4,l.take N,[],[],false) by rw[hd,← hN,yH])
 have HN:=zo hN;have hlt:=(zf.1 ho).1;rw[hN] at hlt;clear hd hN;have hge:¬((N:Int)≤(a:Int)):=zy;have hia:(a:Int) < (N:Int):=zy;obtain⟨q1,off,rfl,_,c0⟩:=hr.v (rf ho);have HC:=zo c0;have HB0:=zo ((zh w.heap.size w).alloc (zn _) (.cells #[.int .i64 0,.slice none 0 0,.string ⟨#[]⟩,.slice none 0 0,.bool false] 30));have HK0:=zo (Bk.new w 30 [.int .i64 0,.slice none 0 0,.string ⟨#[]⟩,.slice none 0 0,.bool false]);have c1:=um (.cells #[.int .i64 0,.slice none 0 0,.string ⟨#[]⟩,.slice none 0 0,.bool false] 30) c0;clear hr ho c0;unfold abL at CS;obtain⟨Z,hZ⟩:∃Z,Po p ex=Z:=⟨_,rfl⟩;rw[hZ] at CS hs;have hgt:(N:Int) < (Z:Int):=zy;clear hZ;generalize o.toNat=oz at CA CS HC c1;go_enter Tryz.func15,Tryz.ntmps15
 go_wp2_with (first
  |(go_at_call 32;go_loud (refine (CP.out _ HB0.out).mono ?_;rintro e w1 ⟨rfl,rfl⟩))
  |(go_at_call 34;go_loud (refine (CA.out _ HB0.out).mono ?_;rintro e w1 ⟨A1,c1,rfl,_,hb⟩;have HB1:=zo (HB0.trans (hb.mono HB0.size));have jq:=zo (HK0.after hb);have HB2:=zo (HB1.alloc HB1.size (.cells #[.int .i64 (p:Int),.int .u8 (oz:Int),.string s,.slice A1 L.length c1,.string (ag ex),.bool al] 95));have qL:=zo (jq.alloc (.cells #[.int .i64 (p:Int),.int .u8 (oz:Int),.string s,.slice A1 L.length c1,.string (ag ex),.bool al] 95));clear hb))
  |(go_at_call 35;go_loud (refine (CS.out _ _ _ HB2.out).mono ?_;rintro e w5 ⟨rfl,hb⟩;have HB5:=zo (HB2.trans (hb.mono HB2.size));have HK5:=zo (qL.after hb);clear hb))
  |(go_at_call 33;go_loud (refine (CI.out 4 N _ (zn _) HB5.out).mono ?_;rintro e w2 ⟨A2,c2,rfl,hr,hb⟩;have HR3:=zo hr;have HB3:=zo (HB5.trans (hb.mono HB5.size));have u7:=zo (HK5.after hb);clear hr hb))
  |(refine aN rfl 30 (.tmp 2) (.tmp 53) rfl w.heap.size 0 [.int .i64 4,.slice A2 N c2,.string ⟨#[]⟩,.slice none 0 0,.bool false] rfl rfl 30 _ u7.out rfl zw (by simp[Value.oneCell']) ?_;intro w3 hk3 hg3;have ru:=zo hg3;have y0:=hk3.cell 0 rfl;have y1:=hk3.cell 1 rfl;have y2:=hk3.cell 2 rfl;have y3:=hk3.cell 3 rfl;have y4:=hk3.cell 4 rfl;clear hk3 hg3))
 refine⟨rfl,.agg #[.int .i64 4,.slice A2 N c2,.string ⟨#[]⟩,.slice none 0 0,.bool false],by simp[results,Tryz.results15,go_sem,y0,y1,y2,y3,y4],?_⟩
 exact Ck (k:=4) (n:=N) HD.out (xL HN.symm) HR3.out HB3.out (by have:=HK5.lt;omega) ru.out
