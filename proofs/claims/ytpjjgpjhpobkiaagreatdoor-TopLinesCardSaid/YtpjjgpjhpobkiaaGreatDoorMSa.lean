/- Parts of the proof of TopLines. -/
import Derived.Test.YtpjjgpjhpobkiaaGreatDoorMK14
import Derived.Test.YtpjjgpjhpobkiaaGreatDoorMK16
import Derived.Test.YtpjjgpjhpobkiaaGreatDoorMP8
set_option maxHeartbeats 16000000
set_option maxRecDepth 100000
namespace Go.Proofs.YtpjjgpjhpobkiaaGreatDoor
section
open Go.RowKit Go.Shelf Ex
theorem ajD {ex:List Nat}(h:gV ex jQ=true):ex.length≤2:=by
 rcases gM h with rfl|rfl|rfl|rfl|rfl|rfl<;>decide
theorem ahK (l:List UInt8)(ex:List Nat)(K:Nat)(d n:Int):rX l (100::ex) K d n=rX l ex (K+1) (qo (OU l K)) n:=rfl
theorem ahJ (l:List UInt8)(ex:List Nat)(K:Nat)(d n:Int):rX l (101::ex) K d n=rX l ex (K+1) d (qo (OU l K)):=rfl
theorem ahI (l:List UInt8)(ex:List Nat)(K:Nat)(d n:Int):rX l (110::ex) K d n=rX l ex (K+1) d (OU l K):=rfl
theorem ahH (l:List UInt8)(ex:List Nat)(K:Nat)(d n:Int):rX l (119::ex) K d n=rX l ex (K+1) d (OU l K+256 * OU l (K+1)):=rfl
theorem EM {c:Nat}{ex:List Nat}:1+oG ex≤oG (c::ex):=by
 show _≤cond (Nat.beq c 119) 2 1+oG ex
 cases Nat.beq c 119<;>simp
theorem ajE {c K N:Nat}{ex:List Nat}(h:K+oG (c::ex)≤N):K < N:=by have:=EM (c:=c) (ex:=ex);omega
theorem ae2 {K N:Nat}{ex:List Nat}(h:K+oG (100::ex)≤N):K+1+oG ex≤N:=by have:=EM (c:=100) (ex:=ex);omega
theorem ae1 {K N:Nat}{ex:List Nat}(h:K+oG (101::ex)≤N):K+1+oG ex≤N:=by have:=EM (c:=101) (ex:=ex);omega
theorem ae0 {K N:Nat}{ex:List Nat}(h:K+oG (110::ex)≤N):K+1+oG ex≤N:=by have:=EM (c:=110) (ex:=ex);omega
theorem aeZ {K N:Nat}{ex:List Nat}(h:K+oG (119::ex)≤N):K+1+oG ex≤N:=by have:=EM (c:=119) (ex:=ex);omega
theorem aav {K N:Nat}{ex:List Nat}(h:K+oG (119::ex)≤N):K+1 < N:=by have:K+(2+oG ex)≤N:=h;omega
theorem Te {ex:List Nat}(h:gV ex jQ=true){t:Nat}(ht:t∈ex):t∈aX:=by
 rcases gM h with rfl|rfl|rfl|rfl|rfl|rfl<;>simp at ht<;>simp[aX,ht]
 rcases ht with rfl|rfl<;>simp
theorem ajC {ex:List Nat}(h:gV ex jQ=true):∀x∈ex,x < 128:=fun x hx=>by
 have:=Te h hx;simp[aX] at this;omega
def abM (w:World)(p o:Nat)(s:ByteArray)(ex:List Nat)(al:Bool)(L L2:List aG)(dv nv:Int):Prop:=∀A c W,Below w.heap.size w W→Rd W (fun _=>True) A (dD L)→Calls Tryz.prog 37 #[.agg #[.int .i64 (p:Int),.int .u8 (o:Int),.string s,.slice A L.length c,.string (ag ex),.bool al],.int .i64 dv,.int .i64 nv] W (RfP W s L2)
structure RfW (w W:World)(be p o:Nat)(s:ByteArray)(A:Option Addr)(L:List aG)(c:Nat)(ex:List Nat)(al:Bool):Prop where
 r:Bk W w.heap.size 30 [.int .i64 0,.slice none 0 0,.string ⟨#[]⟩,.slice none 0 0,.bool false]
 e:Bk W be 95 [.int .i64 (p:Int),.int .u8 (o:Int),.string s,.slice A L.length c,.string (ag ex),.bool al]
 rd:Rd W (fun _=>True) A (dD L)
 bl:Below w.heap.size w W
 lt:w.heap.size < be
theorem RfW.after {w W W':World}{be p o:Nat}{s:ByteArray}{A:Option Addr}{L:List aG}{c:Nat}{ex:List Nat}{al:Bool}(h:RfW w W be p o s A L c ex al)(hb:Below W.heap.size W W'):RfW w W' be p o s A L c ex al:=
 ⟨h.r.after hb,h.e.after hb,h.rd.after hb,h.bl.trans (hb.mono h.bl.size),h.lt⟩
theorem Bk.grown {w w':World}{b:Nat}{T:TypeId}{vs:List Value}{r:Option Nat}(h:Bk w b T vs)(hg:w.grownBy w' r)(hr:some b≠r):Bk w' b T vs:=(hg.block b h.lt hr).trans h
theorem adh {w wr w2 w4 w5 w7:World}{l:List UInt8}{Z c2 c4:Nat}{A2 A4:Option Addr}{nm:List Nat}{L2:List aG}{al:Bool}(hd:dec l=(1,l.take Z,nm,L2,al))(_hZ:Z≤l.length)(hr2:Rd w2 (fun i=>wr.heap.size≤i) A2 (bs (l.take Z)))(hb:Below w.heap.size w w2)(_hwr:w.heap.size+1≤wr.heap.size)(_h2:wr.heap.size≤w2.heap.size)(hr4:Rd w4 (fun i=>w2.heap.size+1≤i) A4 (dD L2))(h34:Below w2.heap.size w2 w4)
 (g5:w4.grownBy w5 (some w2.heap.size)) (g7:(w5.setCell ⟨w2.heap.size,4,none⟩ (.bool al)).grownBy w7 (some w.heap.size)):
 KW l w (.returned (.agg #[.int .i64 1,.slice A2 Z c2,.string (ag nm),.slice A4 L2.length c4,.bool al])) w7:=by
 have hlen:(l.take Z).length=Z:=by rw[zJ];omega
 have s4:=h34.size;have s5:=g5.size
 have k7:∀i,i < w4.heap.size→i≠w2.heap.size→i≠w.heap.size→w7.heap[i]? =w4.heap[i]?:=fun i hi h1 h3=>
  (g7.block i zu fun e=>h3 (zq e)).trans ((zG w5 _ _ i h1).trans (g5.block i hi fun e=>h1 (zq e)))
 refine⟨((1,l.take Z,nm,L2,al),A2,c2,A4,c4),hd.symm,by simp only[jX,hlen];rfl,⟨?_,?_⟩,?_⟩
 ·exact hr2.move fun i hi h=>⟨zy,(k7 i zy zy zy).trans (h34.block i hi)⟩
 ·exact hr4.move fun i hi h=>⟨zy,k7 i hi zy zy⟩
 ·have b4:=hb.trans (h34.mono hb.size);have b5:=b4.grown g5 b4.size fun k e=>by have:w2.heap.size=k:=zq e;omega
  exact (b5.setCell (by show w.heap.size≤w2.heap.size;omega) _).grown g7 zu fun k e=>by have:w.heap.size=k:=zq e;omega
theorem Ml {w:World}{l:List UInt8}{A:Option Addr}{c N p a nx Z:Nat}{o:UInt8}{s:ByteArray}{ex:List Nat}{al:Bool}{L L2:List aG}{dv nv:Int}(hN:l.length=N)(_hm:N≤1000)(CP:Hid (WC w p a N A c))(CI:Hid (WE w l N A c))(ho:l[a]? =some o){q:Nat→Prop}(hr:Rd w q A (bs l))(CA:Hid (aki w p o.toNat s ex al L))(CS:Hid (abL w p o.toNat s ex al L))
 (CF:Hid (abM w p o.toNat s ex al L L2 dv nv)) (hL:L2.length=L.length) (hex:gV ex jQ=true) (hs:Po p ex=Z) (hZ:Z≤N) (hnx:5≤p∧nx=2∨p < 5∧nx=a+1) (hE:nx+oG ex≤N) (hX:rX l ex nx 0 0=(dv,nv)) {nm:List Nat} (hs2:s=ag nm) (hd:dec l=(1,l.take Z,nm,L2,al)):
 Calls Tryz.prog 15 #[.slice A N c] w (KW l w):=by
 have HD:=zo hd;have HN:=zo (zM hN (zM hL hs2));have HEx:=zo hex;have HE:=zo hE;have HX:=zo hX;have HNx:=zo hnx;have hlt:=(zf.1 ho).1;rw[hN] at hlt;clear hd hN hL hs2 hex hE hX hnx;have hge:¬((N:Int)≤(a:Int)):=zy;have hia:(a:Int) < (N:Int):=zy;obtain⟨q1,off,rfl,_,c0⟩:=hr.v (rf ho);have HC:=zo hr;have HB0:=zo ((zh w.heap.size w).alloc (zn _) (.cells #[.int .i64 0,.slice none 0 0,.string ⟨#[]⟩,.slice none 0 0,.bool false] 30));have HK0:=zo (Bk.new w 30 [.int .i64 0,.slice none 0 0,.string ⟨#[]⟩,.slice none 0 0,.bool false]);have c1:=um (.cells #[.int .i64 0,.slice none 0 0,.string ⟨#[]⟩,.slice none 0 0,.bool false] 30) c0;clear hr ho c0;unfold abL at CS;rw[hs] at CS;have hgt:¬(N:Int) < (Z:Int):=zy;have HZ:=zo hZ;clear hs hZ;generalize o.toNat=oz at CA CS CF c1;go_enter Tryz.func15,Tryz.ntmps15
 go_wp2_with (first
  |(go_at_call 32;go_loud (refine (CP.out _ HB0.out).mono ?_;rintro e w1 ⟨rfl,rfl⟩))
  |(go_at_call 34;go_loud (refine (CA.out _ HB0.out).mono ?_;rintro e w1 ⟨A1,c1,rfl,hrd,hb⟩;have HB1:=zo (HB0.trans (hb.mono HB0.size));have jq:=zo (HK0.after hb);have HF2:Hid (RfW w (w1.alloc (.cells #[.int .i64 (p:Int),.int .u8 (oz:Int),.string s,.slice A1 L.length c1,.string (ag ex),.bool al] 95)) w1.heap.size p oz s A1 L c1 ex al):=⟨jq.alloc _,Bk.new w1 _ _,hrd.after ((zh _ _).alloc (zn _) _),HB1.alloc HB1.size _,jq.lt⟩;clear hb hrd))
  |(go_at_call 35;go_loud (refine (CS.out _ _ _ HF2.bl).mono ?_;rintro e w5 ⟨rfl,hb⟩;have HF5:=zo (HF2.after hb);clear hb)))
 all_goals
  have hn:=HNx.out;have hnx:5≤(p:Int)∧nx=2∨(p:Int) < 5∧nx=a+1:=zy;have HLE:=zo (ajD HEx.out);obtain⟨be,hbe⟩:∃be,w1.heap.size=be:=⟨_,rfl⟩;rw[hbe] at HF5 ⊢;clear hn;have hNZ:decide (N < Z)=false:=zN (by have:=HZ.out;omega)
  rw[hNZ];clear hNZ
  first
   |rw[show decide ((5:Int)≤(p:Int))=true from zC zy]
   |rw[show decide ((5:Int)≤(p:Int))=false from zN zy]
  go_loopw [8,9,10,11] (fun u8 u9 u10 v wr=>∃(i:Nat) (d n:Int),v= .int .i64 (i:Int)∧i≤ex.length∧u8= .int .i64 d∧u9= .int .i64 n∧u10= .int .i64 ((nx+i:Nat):Int)∧Hid (rX l (ex.drop i) (nx+i) d n=(dv,nv))∧Hid (nx+i+oG (ex.drop i)≤N)∧Hid (RfW w wr be p oz s A1 L c1 ex al)) (fun _ _ _ v _=>ex.length - (intOf v).toNat)
  case atStart=>exact⟨0,0,0,rfl,zF _,rfl,rfl,yV (Value.int .i64) zy,HX.out,HE.out,HF5.out⟩
  case round=>
   obtain⟨i,d,n,rfl,hi,rfl,rfl,rfl,hX,hE,hF⟩:=hrel;have e3:=hF.e.cell 4 rfl;have hbl:(ag ex).size=ex.length:=aC ex;have hle:=HLE.out;by_cases hlt2:i < ex.length
   ·obtain⟨hs,hg,h128⟩:=E8 hlt2 (ajC HEx.out);obtain⟨t,ht⟩:∃t,ex[i]=t:=⟨_,rfl⟩;have hmem:t∈aX:=Te HEx.out (by rw[← ht];exact vo hlt2)
    have hdr:ex.drop i=t::ex.drop (i+1):=by rw[← ht];exact zK hlt2
    rw[ht] at hg;rw[hdr] at hX hE;clear hdr ht;obtain⟨K,hK⟩:∃K,nx+i=K:=⟨_,rfl⟩;rw[hK] at hX hE ⊢;have hKN:K < N:=ajE hE.out;have hKi:(K:Int) < (N:Int):=zy;have hK0:0≤(K:Int):=zy;obtain⟨x,hx⟩:∃x,l[K]? =some x:=⟨_,zg (by rw[HN.1];exact hKN)⟩
    have hbx:OU l K=(x.toNat:Int):=by unfold OU;rw[hx]
    obtain⟨_,_,e2,_,cK⟩:=(HC.after hF.bl).v (rf hx);injection e2 with e2
    injection e2 with e4 e5
    subst e4 e5;have hz0:0≤(x.toNat:Int):=zy;have hz1:(x.toNat:Int) < 256:=by have:=x.toNat_lt;omega
    have HK:=zo hK;simp only[aX,List.mem_cons,List.not_mem_nil,or_false] at hmem;rcases hmem with rfl|rfl|rfl|rfl
    ·have TL:Hid (rX l (ex.drop (i+1)) (K+1) (qo (x.toNat:Int)) n=(dv,nv)):=by
      have h1:=hX.out;rw[ahK,hbx] at h1;exact h1
     have HE2:Hid (K+1+oG (ex.drop (i+1))≤N):=ae2 hE.out;clear hX hE hx hbx;generalize (x.toNat:Int)=z at *
     go_wp2_with (go_at_call 36;refine (GJ hz0 hz1 _).mono ?_;rintro e w7 ⟨rfl,rfl⟩)
     go_roundw
     case rel=>
      have Lp:nx+(i+1)=K+1:=by have:=HK.out;omega
      exact⟨i+1,(qo z),n,by go_num,zy,rfl,rfl,by rw[Lp];go_num,by rw[Lp];exact TL.out,by rw[Lp];exact HE2.out,hF⟩
     case measure=>simp only[intOf];omega
    ·have TL:Hid (rX l (ex.drop (i+1)) (K+1) d (qo (x.toNat:Int))=(dv,nv)):=by
      have h1:=hX.out;rw[ahJ,hbx] at h1;exact h1
     have HE2:Hid (K+1+oG (ex.drop (i+1))≤N):=ae1 hE.out;clear hX hE hx hbx;generalize (x.toNat:Int)=z at *
     go_wp2_with (go_at_call 36;refine (GJ hz0 hz1 _).mono ?_;rintro e w7 ⟨rfl,rfl⟩)
     go_roundw
     case rel=>
      have Lp:nx+(i+1)=K+1:=by have:=HK.out;omega
      exact⟨i+1,d,(qo z),by go_num,zy,rfl,rfl,by rw[Lp];go_num,by rw[Lp];exact TL.out,by rw[Lp];exact HE2.out,hF⟩
     case measure=>simp only[intOf];omega
    ·have TL:Hid (rX l (ex.drop (i+1)) (K+1) d (x.toNat:Int)=(dv,nv)):=by
      have h1:=hX.out;rw[ahI,hbx] at h1;exact h1
     have HE2:Hid (K+1+oG (ex.drop (i+1))≤N):=ae0 hE.out;clear hX hE hx hbx;generalize (x.toNat:Int)=z at *;go_wp2;go_roundw
     case rel=>
      have Lp:nx+(i+1)=K+1:=by have:=HK.out;omega
      exact⟨i+1,d,z,by go_num,zy,rfl,rfl,by rw[Lp];go_num,by rw[Lp];exact TL.out,by rw[Lp];exact HE2.out,hF⟩
     case measure=>simp only[intOf];omega
    ·have aq6:K+1 < N:=aav hE.out;obtain⟨y,hy⟩:∃y,l[K+1]? =some y:=⟨_,zg (by rw[HN.1];exact aq6)⟩
     have hby:OU l (K+1)=(y.toNat:Int):=by unfold OU;rw[hy]
     obtain⟨_,_,e2,_,cK1⟩:=(HC.after hF.bl).v (rf hy);injection e2 with e2
     injection e2 with e4 e5
     subst e4 e5;have hy0:0≤(y.toNat:Int):=zy;have hy1:(y.toNat:Int) < 256:=by have:=y.toNat_lt;omega
     have au3:((K+1:Nat):Int) < (N:Int):=zy;have hK1:0≤((K+1:Nat):Int):=zy
     have TL:Hid (rX l (ex.drop (i+1)) (K+1) d ((x.toNat:Int)+256 * (y.toNat:Int))=(dv,nv)):=by
      have h1:=hX.out;rw[ahH,hbx,hby] at h1;exact h1
     have HE2:Hid (K+1+oG (ex.drop (i+1))≤N):=aeZ hE.out;clear hX hE hx hbx hy hby
     generalize (x.toNat:Int)=z at *;generalize (y.toNat:Int)=y1 at *;go_wp2;go_quiet (fail);go_wp2;go_roundw
     case rel=>
      have Lp:nx+(i+1)=K+1:=by have:=HK.out;omega
      exact⟨i+1,d,(z+256 * y1),by go_num,zy,rfl,rfl,by rw[Lp];go_num,by rw[Lp];exact TL.out,by rw[Lp];exact HE2.out,hF.after (pW _ _ _)⟩
     case measure=>simp only[intOf];omega
   ·obtain rfl:i=ex.length:=zy;have hx:=hX.out;rw[wN] at hx;obtain⟨rfl,rfl⟩:d=dv∧n=nv:=zm hx;clear hx hX hE;have HF:=hF;clear hF e3;have e3:=HF.e.cell 4 rfl
    go_wp2_with (first
     |(go_at_call 33;go_loud (refine (CI.out 1 Z _ HZ.out HF.bl).mono ?_;rintro e w2 ⟨A2,c2,rfl,hr,hb⟩;have HR2:=zo hr;have HB2:=zo hb;have HF2:=zo (HF.after hb);have HF3:=zo (HF2.after ((zh _ _).alloc (zn _) (.cells #[.int .i64 1,.slice A2 Z c2,.string ⟨#[]⟩,.slice none 0 0,.bool false] 30)));have u7:=zo (Bk.new w2 30 [.int .i64 1,.slice A2 Z c2,.string ⟨#[]⟩,.slice none 0 0,.bool false]);have x0:=HF3.e.cell 0 rfl;have x1:=HF3.e.cell 1 rfl;have x2:=HF3.e.cell 2 rfl;have x3:=HF3.e.cell 3 rfl;have x4:=HF3.e.cell 4 rfl;have x5:=HF3.e.cell 5 rfl;clear hr hb))
     |(go_at_call 37;go_loud (refine (CF.out _ _ _ HF3.bl HF3.rd).mono ?_;rintro e w4 ⟨A4,c4,rfl,hr,hb⟩;have HR4:=zo hr;have HK4:=zo (u7.after hb);have HF4:=zo (HF3.after hb);have HB4:=zo hb;clear hr hb x0 x1 x2 x3 x4 x5))
     |(refine aN rfl 28 (.tmp 117) (.tmp 115) rfl w2.heap.size 2 [.string s,.slice A4 L2.length c4] rfl rfl 30 _ HK4.out rfl zw (by simp[Value.oneCell']) ?_;intro w5 hk5 hg5;have HK5:=zo hk5;have HG5:=zo hg5;have HLB:=zo HF2.e.lt;have hE5:=HF4.e.grown hg5 (fun e=>by have:=HLB.out;have:be=w2.heap.size:=zq e;omega);have HK6:=zo ((HF4.r.grown hg5 (fun e=>by have:=HF4.lt;have:=HLB.out;have:w.heap.size=w2.heap.size:=zq e;omega)).other (p:=⟨w2.heap.size,4,none⟩) (by have:=HF4.lt;have:=HLB.out;show w.heap.size≠w2.heap.size;omega) (.bool al));have x5:=hE5.cell 5 rfl;have f4:=hk5.frozen 4;have k0:=hk5.cell 0 rfl;have k1:=hk5.cell 1 rfl;have k2:=hk5.cell 2 rfl;have k3:=hk5.cell 3 rfl;have k4:=hk5.cell 4 rfl;clear hk5 hg5 hE5)
     |(refine aN rfl 30 (.tmp 2) (.tmp 121) rfl w.heap.size 0 [.int .i64 1,.slice A2 Z c2,.string s,.slice A4 L2.length c4,.bool al] rfl rfl 30 _ HK6.out rfl zw (by simp[Value.oneCell']) ?_;intro w7 WS hg7;have HG7:=zo hg7;have y0:=WS.cell 0 rfl;have y1:=WS.cell 1 rfl;have y2:=WS.cell 2 rfl;have y3:=WS.cell 3 rfl;have y4:=WS.cell 4 rfl;clear WS hg7))
    refine⟨rfl,.agg #[.int .i64 1,.slice A2 Z c2,.string s,.slice A4 L2.length c4,.bool al],by simp[results,Tryz.results15,go_sem,y0,y1,y2,y3,y4],?_⟩
    rw[HN.2.2];exact adh HD.out (by rw[HN.1];exact HZ.out) HR2.out (HF.bl.trans (HB2.mono HF.bl.size)) HF.r.lt HB2.size (HR4.mono fun i _ h=>by simpa using h) (((zh _ _).alloc (zn _) _).trans (HB4.mono zw)) HG5.out HG7.out
end
section
open Go.RowKit Ex
theorem al6 {l:List UInt8}(hl:l≠[]):(l7 l).2≤3:=by
 have h1:=(Jw hl).ap;have h2:=mo (l7 l).1;split at h1<;>omega
theorem VT (vd vn:Option Vr)(le:List aG)(d n:Int):(eO vd vn le d n).length=le.length:=by
 refine Nat.le_antisymm (Nat.le_of_not_lt fun h=>?_) (Nat.le_of_not_lt fun h=>?_)
 ·have:=mP vd vn le d n le.length;rw[yo (zn _),zg h] at this
  cases this
 ·have:=mP vd vn le d n (eO vd vn le d n).length;rw[yo (zn _),zg h] at this
  cases this
theorem PU {w:World}(hG:eT w){l:List UInt8}(hl:l≠[])(hm:l.length≤1000){A:Option Addr}{c:Nat}(hc:l.length≤c){q:Nat→Prop}(hr:Rd w q A (bs l)):
 Calls Tryz.prog 15 #[.slice A l.length c] w (KW l w):=by
 have CP:=zo (apL hl hm hc hr);have CI:=zo (apM hm hc hr);rcases aaS hl with⟨h,hd⟩|⟨o,d,ho,hd,hp,h⟩
 ·exact PT rfl hm CP CI h (al6 hl) hd
 have CO:Hid (akh w (l7 l).1 o.toNat d.1):=fun W hb=>XV hd W (hG.after hb)
 rcases h with⟨hk,hde⟩|⟨hk,h2,hde⟩|⟨hk,hex,h⟩
 ·rw[hk] at CO;exact PS rfl hm CP CI ho (yG.2 hl) hr CO hde
 ·rw[hk] at CO;exact Jm rfl hm CP CI ho h2 hr CO hde
 obtain⟨v1,v2,v3⟩:=PM hd;have CA:Hid (aki w (l7 l).1 o.toNat (ag d.2.1) d.2.2.1 d.2.2.2.1 (opsL d.2.2.2.2)):=fun W hb=>(ahv hd hk W (hG.after hb)).mono fun e w' ⟨A',c',he,hR,hB⟩=>⟨A',c',by rw[v2];exact he,by rw[← v1];exact hR,hB⟩
 have CS:Hid (abL w (l7 l).1 o.toNat (ag d.2.1) d.2.2.1 d.2.2.2.1 (opsL d.2.2.2.2)):=fun A' c' W hb=>UC hp hex _ _ _ _ _ _ W (hG.after hb)
 rcases h with⟨hs,hde⟩|⟨hs,hE,dv,nv,hX,hD,hV,hde⟩
 ·exact Mk rfl hm CP CI ho hr CA CS hs hde
 have F:=adi hd hk hD hV
 have CF:Hid (abM w (l7 l).1 o.toNat (ag d.2.1) d.2.2.1 d.2.2.2.1 (opsL d.2.2.2.2) (eO (kQ d) (l8 d) (opsL d.2.2.2.2) dv nv) dv nv):=fun A' c' W hb hR=>by
  have:=UH (.int .i64 ((l7 l).1:Int)) (.int .u8 (o.toNat:Int)) (ag d.2.1) d.2.2.1 (.bool d.2.2.2.1) A' (opsL d.2.2.2.2) _ c' dv nv W _ hex rfl zy hR (fun V hV=>hG.after (hb.trans (hV.mono hb.size))) ⟨rfl,rfl,rfl⟩ F.hd F.hv F.ud F.un
  rw[F.eq] at this;exact this
 refine Ml rfl hm CP CI ho hr CA CS CF (VT _ _ _ _ _) hex rfl hs ?_ hE hX rfl hde;by_cases h5:5≤(l7 l).1
 ·exact .inl ⟨h5,zW h5⟩
 ·exact .inr ⟨zy,za h5⟩
end
section
open Go.RowKit Go.Shelf Ex
def alL:Value→Nat
 | .slice _ n _=>n
 |_=>0
structure RdW (w W:World)(v:Value)(xs:List jY)(A:Option Addr)(c:Nat)(r l:List UInt8):Prop where
 own:W.ownsRow w.heap.size 30 5 v xs.length (iF xs)
 its:∀x∈xs,ItP (fun i=>w.heap.size≤i∧some i≠v.ownBlock) W x
 bl:Below w.heap.size w W
 rd:Rd W (fun i=>i < w.heap.size) A (bs r)
 le:r.length≤c
 l1:r.length≤1000
 xl:xs.length≤1000
 eq:xs.map (·.1)++items r=items l
theorem RdW.step {w W w1 W5:World}{O1 O2:Obj}{v v2:Value}{xs:List jY}{A:Option Addr}{c:Nat}{r l:List UInt8}{x:jY}(h:RdW w W v xs A c r l)(hb:Below W.heap.size W w1)(hE:Lr W.heap.size w1 x)(hx:dec r=x.1)(hr:r≠[])(_hl:l.length≤1000)
 (hown:W5.ownsRow w.heap.size 30 5 v2 (xs.length+1) (iF xs++jX x)) (hg:((w1.alloc O1).alloc O2).grownBy W5 v.ownBlock) (hat:v2.ownBlock=v.ownBlock∨v2.ownBlock=some ((w1.alloc O1).alloc O2).heap.size):
 RdW w W5 v2 (xs++[x]) (cutAt A c x.1.2.1.length 1) (c - x.1.2.1.length) (r.drop x.1.2.1.length) l:=by
 have s1:=hb.size;have s0:=h.bl.size;have H1:Below w1.heap.size w1 ((w1.alloc O1).alloc O2):=((zh _ _).alloc (zn _) _).alloc zw _;have H:Below W.heap.size W ((w1.alloc O1).alloc O2):=hb.trans (H1.mono s1);have lt:∀i,some i=v.ownBlock→w.heap.size≤i∧i < W.heap.size:=fun i e=>h.own.lt i e.symm
 have amw:∀i,i < w1.heap.size→some i≠v.ownBlock→W5.heap[i]? =w1.heap[i]? ∧some i≠v2.ownBlock:=fun i h1 h2=>by
  refine⟨(hg.block i zu h2).trans (H1.block i h1),fun e=>?_⟩
  rcases hat with h3|h3
  ·exact h2 (e.trans h3)
  ·rw[h3] at e;have:=zq e;simp at this;omega
 have key:∀i,i < W.heap.size→some i≠v.ownBlock→W5.heap[i]? =W.heap[i]? ∧some i≠v2.ownBlock:=fun i h1 h2=>by
  obtain⟨q1,q2⟩:=amw i zy h2;exact⟨q1.trans (hb.block i h1),q2⟩
 have hq:(xs++[x]).map (·.1)++items (r.drop x.1.2.1.length)=items l:=by
  have h2:=h.eq;rw[jh hr,hx] at h2;rw[← h2,yu,yc];rfl
 refine⟨?_,fun y hy=>?_,?_,?_,?_,?_,?_,hq⟩
 ·rw[show iF (xs++[x])=iF xs++jX x by simp[iF],zL]
  exact hown
 ·rcases zA.1 hy with hy|hy
  ·have mv:∀i,i < W.heap.size→(w.heap.size≤i∧some i≠v.ownBlock)→(w.heap.size≤i∧some i≠v2.ownBlock)∧W5.heap[i]? =W.heap[i]?:=fun i h1 h2=>⟨⟨h2.1,(key i h1 h2.2).2⟩,(key i h1 h2.2).1⟩
   exact⟨(h.its y hy).1.move mv,(h.its y hy).2.move mv⟩
  ·obtain rfl:y=x:=by simpa using hy
   have mv:∀i,i < w1.heap.size→W.heap.size≤i→(w.heap.size≤i∧some i≠v2.ownBlock)∧W5.heap[i]? =w1.heap[i]?:=fun i h1 h2=>by
    obtain⟨q1,q2⟩:=amw i h1 fun e=>by have:=lt i e;omega
    exact⟨⟨zy,q2⟩,q1⟩
   exact⟨hE.1.move mv,hE.2.move mv⟩
 ·exact (h.bl.trans (H.mono s0)).grown hg zu fun k e=>(lt k e.symm).1
 ·have h1:=(h.rd.keep (w':=W5) fun i h1 h2=>(key i h1 fun e=>by have:=lt i e;omega).1).cut (size:=1) (n:=r.length) (c:=c) (k:=x.1.2.1.length) (by rw[aQ];omega) h.le
  rwa [show (bs r).drop (x.1.2.1.length * 1)=bs (r.drop x.1.2.1.length) by simp[bs]] at h1
 ·rw[zH];have:=h.le;omega
 ·rw[zH];have:=h.l1;omega
 ·have h1:=yV List.length hq;have h2:(items l).length≤l.length:=mI l.length l (zn _);rw[zL,zI] at h1;omega
theorem Mo {A:Option Addr}{c:Nat}{l:List UInt8}(hm:l.length≤1000)(hc:l.length≤c)(w:World)(hG:eT w)(q:Nat→Prop)(hr:Rd w q A (bs l)):
 Calls Tryz.prog 5 #[.slice A l.length c] w (Rl l w):=by
 have CF:=zo (fun W (hb:Below w.heap.size w W) (r:List UInt8) (hne:r≠[]) (hm:r.length≤1000) (A:Option Addr) (c:Nat) (hc:r.length≤c) (hr:Rd W (fun i=>i < w.heap.size) A (bs r))=>PU (hG.after hb) hne hm hc hr)
 have H0:Hid (RdW w w (.slice none 0 0) [] A c l l):=⟨yx _ _ _ _,fun x hx=>(by cases hx),zh _ _,hr.mono fun i hi _=>hi,hc,hm,zF _,rfl⟩
 have HM:=zo hm;clear hG hm hc hr;go_enter Tryz.func5,Tryz.ntmps5;go_wp2
 go_loopw [0,3] (fun u0 u3 wr=>∃(v:Value) (xs:List jY) (A:Option Addr) (c:Nat) (r:List UInt8),u0= .slice A r.length c∧v=u3∧Hid (RdW w wr v xs A c r l)) (fun u0 _ _=>alL u0)
 case atStart=>exact⟨_,[],A,c,l,rfl,rfl,H0.out⟩
 case round=>
  obtain⟨v,xs,A',c',r,rfl,rfl,hI⟩:=hrel;by_cases hr0:r=[]
  ·have HI:Hid (Rl l w (.returned v) wr):=⟨v,xs,rfl,by have:=hI.eq;rw[hr0,qE,wI] at this;exact this,hI.own,hI.its,hI.bl⟩
   obtain⟨n,hn⟩:∃n,r.length=n:=⟨_,rfl⟩;rw[hn];have hn0:n=0:=by rw[← hn,hr0];rfl
   clear hI hn hr0;subst hn0;go_wp2;go_ret;exact HI.out
  ·obtain⟨⟨k1,raw,nm,ops,al⟩,hxr⟩:∃xr,dec r=xr:=⟨_,rfl⟩;have CFr:=zo (CF.out _ hI.bl r hr0 hI.l1 A' c' hI.le hI.rd);unfold KW at CFr;have hdl:=jR hr0;rw[hxr] at CFr hdl;have d1:1≤raw.length:=hdl.1;have d2:raw.length≤r.length:=hdl.2.1;clear hdl;have HR0:=zo (zM hr0 hxr);have HD:=zo (zM d1 d2);have hl1:=hI.l1;obtain⟨n,hn⟩:∃n,r.length=n:=⟨_,rfl⟩;rw[hn] at CFr d2 hl1 ⊢;have HN:=zo hn;have hn0:0 < (n:Int):=zy
   have hsl:∀W,(Instr.sliceAt 22 (.slice A' n c') (some (.int .i64 (raw.length:Int))) none none).run Tryz.prog W= .ok (.slice (cutAt A' c' raw.length 1) (n - raw.length) (c' - raw.length)) W:=fun W=>by
    rw[run_sliceAt_slice W _ _ _ _ _ iU.under];exact sP iU A' n c' raw.length W d2
   have hrl:(raw.length:Int)≤1000:=zy;clear hn hr0 hxr d1 d2 hl1 CF H0;have HI:=hI;clear hI
   go_wp2_with (first
    |(go_at_call 15;go_loud (refine CFr.mono ?_;rintro e w1 ⟨⟨xr,A1,c1,A2,c2⟩,rfl,rfl,hE,hb⟩;have HE:=zo hE;have HB:=zo hb;have x0:=(Bk.new w1 30 [.int .i64 (k1:Int),.slice A1 raw.length c1,.string (ag nm),.slice A2 ops.length c2,.bool al]).cell 0 rfl;have x1:=(Bk.new w1 30 [.int .i64 (k1:Int),.slice A1 raw.length c1,.string (ag nm),.slice A2 ops.length c2,.bool al]).cell 1 rfl;have x2:=(Bk.new w1 30 [.int .i64 (k1:Int),.slice A1 raw.length c1,.string (ag nm),.slice A2 ops.length c2,.bool al]).cell 2 rfl;have x3:=(Bk.new w1 30 [.int .i64 (k1:Int),.slice A1 raw.length c1,.string (ag nm),.slice A2 ops.length c2,.bool al]).cell 3 rfl;have x4:=(Bk.new w1 30 [.int .i64 (k1:Int),.slice A1 raw.length c1,.string (ag nm),.slice A2 ops.length c2,.bool al]).cell 4 rfl;clear hE hb))
    |(at_builtin;go_must (refine bu N9 rfl (.tmp 10) (.tmp 12) rfl w.heap.size v xs.length (iF xs) (fun _=>True) (some ⟨w1.heap.size+1,0,none⟩) 1 1 [.int .i64 (k1:Int),.slice A1 raw.length c1,.string (ag nm),.slice A2 ops.length c2,.bool al] rfl rfl ((own_below HI.own (HB.trans (((zh _ _).alloc (zn _) _).alloc zw _ |>.mono HB.size)) (zn _))) rfl (by have:=Rd.new (p:=fun _=>True) (w1.alloc (.cells #[.int .i64 (k1:Int),.slice A1 raw.length c1,.string (ag nm),.slice A2 ops.length c2,.bool al] 30)) #[.int .i64 (k1:Int),.slice A1 raw.length c1,.string (ag nm),.slice A2 ops.length c2,.bool al] 30 trivial;rwa [zU] at this) (by simp[Value.oneCell']) (by have:=HI.xl;simp only[maxLen];omega) (by have:=HI.xl;omega) (by have:=HI.bl.size;have:=HB.size;simp;omega) ?_;intro v2 w5 ho hg hat _;have z1:w5.cell? ⟨w1.heap.size,1,none⟩=some (.slice A1 raw.length c1):=(by
       rw[← (um (.cells #[.int .i64 (k1:Int),.slice A1 raw.length c1,.string (ag nm),.slice A2 ops.length c2,.bool al] 30) x1)];exact yz (hg.block w1.heap.size zu fun e=>by have:=(HI.own.lt _ e.symm).2;have:=HB.size;omega));have HO:=zo (zM ho (zM hg hat));clear ho hg hat x0 x1 x2 x3 x4)))
   go_roundw
   case rel=>exact⟨v2,xs++[((k1,raw,nm,ops,al),A1,c1,A2,c2)],cutAt A' c' raw.length 1,c' - raw.length,r.drop raw.length,by rw[zH,HN.out],rfl,HI.step HB.out HE.out HR0.2 HR0.1 HM.out HO.1 HO.2.1 HO.2.2⟩
   case measure=>
    have h1:=HD.out;have h2:=HN.out;show n - raw.length < n;omega
theorem Hw:∀(k:Nat) (xs:List jY),(iF xs).drop (k * 5)=iF (xs.drop k)
 |0,xs=>by simp
 |k+1,[]=>by simp[iF]
 |k+1,x::xs=>by
  rw[show iF (x::xs)=jX x++iF xs from yM,show (k+1) * 5=k * 5+1+1+1+1+1 by omega]
  simp only[jX,List.cons_append,List.nil_append,List.drop_succ_cons];exact Hw k xs
theorem Rd.it {w:World}{p:Nat→Prop}{A:Option Addr}{xs:List jY}(h:Rd w p A (iF xs)){k:Nat}{x:jY}(hk:xs[k]? =some x):
 ∃b off,A=some ⟨b,off,none⟩∧w.cell? ⟨b,off+k * 5,none⟩=some (.int .i64 (x.1.1:Int))∧w.cell? ⟨b,off+k * 5+1,none⟩=some (.slice x.2.1 x.1.2.1.length x.2.2.1)∧w.cell? ⟨b,off+k * 5+2,none⟩=some (.string (ag x.1.2.2.1))∧w.cell? ⟨b,off+k * 5+3,none⟩=some (.slice x.2.2.2.1 x.1.2.2.2.1.length x.2.2.2.2)∧w.cell? ⟨b,off+k * 5+4,none⟩=some (.bool x.1.2.2.2.2):=by
 have hlt:k < xs.length:=(zf.1 hk).1
 have hd:(iF xs).drop (k * 5)=jX x++iF (xs.drop (k+1)):=by
  rw[Hw,zK hlt,(xw hlt).2 hk];rfl
 have hne:iF xs≠[]:=fun e=>by rw[e] at hd;simp[jX] at hd
 obtain⟨b,off,hA,_,hc⟩:=h.ex hne
 have key:∀j u,(jX x)[j]? =some u→w.cell? ⟨b,off+k * 5+j,none⟩=some u:=fun j u hj=>by
  have:(iF xs)[k * 5+j]? =some u:=by
   rw[← yg,hd,xz (zf.1 hj).1];exact hj
  rw[wz];exact hc _ _ this
 exact⟨b,off,hA,key 0 _ rfl,key 1 _ rfl,key 2 _ rfl,key 3 _ rfl,key 4 _ rfl⟩
theorem aaa {w:World}(hG:eT w):TabAt 1 Lib.deBruijn64tab w:=fun j hj=>hG _ _ (show au 1 bE=some _ by rfl) j _ (sI zz j hj)
theorem ahk (A:Option Addr)(n c:Nat)(w:World)(hG:eT w)(hbig:100 < n):
 Calls Tryz.prog 3 #[.slice A n c] w fun e w'=>e= .returned (.bool true)∧Below w.heap.size w w':=by
 have CAl:=zo (IE w hG);have d1:(100:Int) < (n:Int):=zy;clear hG hbig;go_enter Tryz.func3,Tryz.ntmps3
 go_wp2_with (go_at_call 4;refine CAl.mono ?_;rintro e w1 ⟨rfl,hb⟩;have HB1:=zo hb;clear hb)
 go_ret;exact⟨rfl,HB1.out⟩
theorem arp (X:List UInt8):(⟨#[9]⟩++⟨X.toArray⟩:ByteArray)=⟨(9::X).toArray⟩:=by
 apply xn;apply yE;simp
theorem ahj (A:Option Addr)(l:List UInt8)(c:Nat)(w:World)(p:Nat→Prop)(hG:eT w)(hc:l.length≤c)(hm:l.length≤100)(h:Rd w p A (bs l))(hL:∀r,TK r→∀ν,jA ν ((Ed r).1,(Ed r).2.map iD,r.2.1.length)=true):
 Calls Tryz.prog 3 #[.slice A l.length c] w fun e w'=>e= .returned (.bool true)∧Below w.heap.size w w':=by
 have CAl:=zo (fun W (hb:Below w.heap.size w W)=>IE W (hG.after hb))
 have CD:=zo (fun W (hb:Below w.heap.size w W)=>Mo (A:=A) (c:=c) (l:=l) zy hc W (hG.after hb) _ (h.after hb))
 have hGG:=zo (fun W (hb:Below w.heap.size w W)=>hG.after hb)
 have HS:=zo (pz l.length l (zn _))
 have aoq:Hid (∀(g:Nat) W,Below w.heap.size w W→oD W g (fun _=>false) 0 (fun _=>0)→Calls Tryz.prog 10 #[.pointer (some ⟨g,0,none⟩),.int .i64 0,.slice A l.length c] W fun e w'=>e= .returned (.int .i64 0)∧oD w' g (S0 l.length) l.length (wr (fun _=>0) 0 l)∧W.grownBy w' (some g)):=fun g W hb hI=>by
  have h0:JG (fun _=>false) 0=65536:=DK (n:=0) (zn _) zy
  have:=Yl g 0 0 (fun _=>false) (fun _=>0) A l c W p zy zy zy hI (aaa (hG.after hb)) (by rw[h0];omega) (h.after hb)
  rw[yD] at this;exact this
 have CLi:Hid (∀(g:Nat) W,Below w.heap.size w W→oD W g (S0 l.length) l.length (wr (fun _=>0) 0 l)→Calls Tryz.prog 12 #[.pointer (some ⟨g,0,none⟩)] W (WrP l W)):=fun g W hb hI=>M8 g l W zy (hG.after hb) fun V hV=>XR g l l.length V zy (hI.block hV) (aaa (hG.after (hb.trans (hV.mono hb.size)))) fun V' hV'=>aaa (hG.after ((hb.trans (hV.mono hb.size)).trans (hV'.mono (hb.trans (hV.mono hb.size)).size)))
 have HLn:Hid ((l.length=0∧min l.length 1=0)∨(0 < l.length∧min l.length 1=1)):=by
  rcases Nat.eq_zero_or_pos l.length with e|e
  ·exact .inl ⟨e,zy⟩
  ·exact .inr ⟨e,zy⟩
 unfold WrP at CLi;obtain⟨m1,hm1⟩:∃m1,min l.length 1=m1:=⟨_,rfl⟩;obtain⟨IL,hIL⟩:∃IL,items l=IL:=⟨_,rfl⟩
 have HIL:Hid (IL.length≤100):=by
  have:=mI l.length l (zn _);rw[hIL] at this;exact zV this hm
 unfold Rl at CD;rw[hm1,hIL] at CLi;rw[hm1] at HLn;rw[hIL] at CD HS;clear hG hc h;obtain⟨n,hn⟩:∃n,l.length=n:=⟨_,rfl⟩;rw[hn] at CD aoq CLi HLn hm ⊢;clear hm1 hIL hn;have d1:¬((100:Int) < (n:Int)):=zy;go_enter Tryz.func3,Tryz.ntmps3
 go_wp2_with (go_at_call 5;go_loud (refine (CD.out _ (zh _ _)).mono ?_;rintro e w1 ⟨v,xs,rfl,hx,ho,hi,hb⟩;obtain⟨A1,c1,rfl,_,_⟩:=bg ho;have HX:=zo hx;have HR:=zo (Rd.jf (p:=fun _=>True) ho fun _ _ _=>trivial);have HI:=zo hi;have HB1:=zo hb;clear hx ho hi hb))
 go_loopw [17] (fun u17 wr=>∃k:Nat,u17= .int .i64 (k:Int)∧k≤xs.length∧Hid (Below w1.heap.size w1 wr)) (fun u17 _=>xs.length - (intOf u17).toNat)
 case atStart=>exact⟨0,rfl,zF _,zh _ _⟩
 case round=>
  obtain⟨k,rfl,hk,hB⟩:=hrel;have HBr:=zo (HB1.trans (hB.mono HB1.size))
  have HXl:xs.length≤100:=by
   have:=yV List.length HX.out;rw[zI] at this;have:=HIL.out;omega
  by_cases hlt:k < xs.length
  ·have hx:=zg hlt;obtain⟨⟨⟨k1,raw,nm,ops,al⟩,A2,c2,A3,c3⟩,hxe⟩:∃x,xs[k]=x:=⟨_,rfl⟩;have hmem:((k1,raw,nm,ops,al),A2,c2,A3,c3)∈xs:=by rw[← hxe];exact vo hlt
   have hT:TK (k1,raw,nm,ops,al):=HS.out _ (by rw[← HX.out];exact zX.2 ⟨_,hmem,rfl⟩)
   rw[hxe] at hx;obtain⟨q,off,rfl,x0,x1,x2,x3,x4⟩:=(HR.after hB.out).it hx;change wr.cell? ⟨q,off+k * 5,none⟩=some (.int .i64 (k1:Int)) at x0;change wr.cell? ⟨q,off+k * 5+1,none⟩=some (.slice A2 raw.length c2) at x1;change wr.cell? ⟨q,off+k * 5+2,none⟩=some (.string (ag nm)) at x2;change wr.cell? ⟨q,off+k * 5+3,none⟩=some (.slice A3 ops.length c3) at x3;change wr.cell? ⟨q,off+k * 5+4,none⟩=some (.bool al) at x4;have hP:ItP (fun _=>True) wr ((k1,raw,nm,ops,al),A2,c2,A3,c3):=⟨((HI.out _ hmem).1.mono fun _ _ _=>trivial).after hB.out,((HI.out _ hmem).2.mono fun _ _ _=>trivial).after hB.out⟩
   have CS:Hid (∀W,Below wr.heap.size wr W→Calls Tryz.prog 7 #[.agg #[.int .i64 (k1:Int),.slice A2 raw.length c2,.string (ag nm),.slice A3 ops.length c3,.bool al]] W fun e w'=>e= .returned (.string ⟨(Ec (k1,raw,nm,ops,al)).toArray⟩)∧Below W.heap.size W w'):=fun W hb=>GA (x:=((k1,raw,nm,ops,al),A2,c2,A3,c3)) hT W (hGG.out W (HBr.trans (hb.mono HBr.size))) ⟨hP.1.after hb,hP.2.after hb⟩
   have CP:Hid (∀W,Below wr.heap.size wr W→Calls Tryz.prog 6 #[.string (⟨#[9]⟩++⟨(Ec (k1,raw,nm,ops,al)).toArray⟩)] W (akj (k1,raw,nm,ops,al) W)):=fun W hb=>by
    rw[arp];exact UR hT (hL _ hT) W (hGG.out W (HBr.trans (hb.mono HBr.size)))
   unfold akj at CP
   have hrl:(raw.length:Int)≤1000:=by
    have:raw.length≤4:=hT.2.1;omega
   have htx:=Qt hT;generalize Ec (k1,raw,nm,ops,al)=tx at CS CP htx;have auU:¬9223372036854775807 < 1+tx.length:=zy;clear htx;obtain⟨s,hs⟩:∃s,ag nm=s:=⟨_,rfl⟩;rw[hs] at CS x2;clear hs;dsimp only at CP;have HA:Hid (Below wr.heap.size wr (wr.alloc (.cells #[.int .i64 (k1:Int),.slice A2 raw.length c2,.string s,.slice A3 ops.length c3,.bool al] 30))):=(zh _ _).alloc (zn _) _;have HK:=zo (Bk.new wr 30 [.int .i64 (k1:Int),.slice A2 raw.length c2,.string s,.slice A3 ops.length c3,.bool al]);have y0:=HK.cell 0 rfl;have y1:=HK.cell 1 rfl;have y2:=HK.cell 2 rfl;have y3:=HK.cell 3 rfl;have y4:=HK.cell 4 rfl;have HlK:=zo hlt;have hlt':(k:Int) < (xs.length:Int):=zy;have HB0:=hB;have hne:((raw.length:Int) != (raw.length:Int))=false:=zw;clear hB hx hxe hmem hT hP hk
   go_wp2_with (first
    |(go_at_call 7;go_loud (refine (CS.out _ HA.out).mono ?_;rintro e w2 ⟨rfl,hb⟩;have HB2:=zo (HA.trans (hb.mono HA.size));have qL:=zo (HK.after hb);clear hb y0 y1 y2 y3 y4))
    |(go_at_call 6;go_loud (refine (CP.out _ HB2.out).mono ?_;rintro e w3 ⟨op,ar,pa,rfl,⟨o1,o2,o3⟩,hf,hb⟩;have HF3:=zo hf;have HB3:=zo (HB2.trans (hb.mono HB2.size));have u7:=zo (qL.after hb);have HKz:=zo (Bk.new w3 34 [.string ⟨#[]⟩,.string ⟨#[]⟩,.slice none 0 0,.slice none 0 0]);clear hf hb))
    |(refine aN rfl 34 (.tmp 5) (.tmp 26) rfl w3.heap.size 0 [.string ⟨#[]⟩,op,ar,pa] rfl rfl 34 _ HKz.out rfl zw (fun v hv=>by simp only[List.mem_cons,List.not_mem_nil,or_false] at hv;rcases hv with rfl|rfl|rfl|rfl<;>first|rfl|assumption) ?_;intro w4 hk4 hg4;have HK4:Hid (Bk w4 w3.heap.size 34 [.string ⟨#[]⟩,op,ar,pa]):=zo hk4;have HA4:Hid (Below w3.heap.size w3 w4):=zo (((zh _ _).alloc (zn _) _).grown hg4 zw fun k e=>by have:w3.heap.size=k:=zq e;omega);have y0:=hk4.cell 0 rfl;have y1:=hk4.cell 1 rfl;have y2:=hk4.cell 2 rfl;have y3:=hk4.cell 3 rfl;clear hk4 hg4)
    |(go_at_call 8;go_loud (refine (HF3.out _ HA4.out).mono ?_;rintro e w5 ⟨rfl,hb⟩;have HB5:=zo (HB3.trans ((HA4.trans (hb.mono HA4.size)).mono HB3.size));have z0:=(HK4.after hb).cell 0 rfl;have z1:=((u7.after HA4.out).after hb).cell 1 rfl;clear hb y0 y1 y2 y3)))
   go_roundw
   case rel=>exact⟨k+1,by go_num,HlK.out,HB0.trans (HB5.mono HB0.size)⟩
   case measure=>have:=HlK.out;simp[intOf];omega
  ·have HB0:=hB;have hge:¬(k:Int) < (xs.length:Int):=zy;have hIn:((IL.length:Nat):Int)≤100:=by have:=HIL.out;omega
   have hmin:min (n:Int) 1=(m1:Int):=by rcases HLn.out with⟨h1,h2⟩|⟨h1,h2⟩<;>omega
   have hnn:0≤(n:Int):=zy;clear hB
   go_wp2_with (first
    |(go_at_call 9;go_loud (refine (Sk _).mono ?_;rintro e w6 ⟨rfl,hI,hb⟩;have HI6:=zo hI;have HB6:=zo (HBr.trans (hb.mono HBr.size));clear hI hb))
    |(go_at_call 10;go_loud (refine (aoq.out _ _ HB6.out HI6.out).mono ?_;rintro e w7 ⟨rfl,hI,hg⟩;have HI7:=zo hI;have HB7:=zo (HB6.grown hg HB6.size (fun k e=>by have:wr.heap.size=k:=zq e;have:=HBr.size;omega));clear hI hg))
    |(go_at_call 4;go_loud (refine (CAl.out _ HB7.out).mono ?_;rintro e w8 ⟨rfl,hb⟩;have HB8:=zo (HB7.trans (hb.mono HB7.size));have HI8:=zo (HI7.block hb);clear hb))
    |(go_at_call 12;go_loud (refine (CLi.out _ _ HB8.out HI8.out).mono ?_;rintro e w9 ⟨S,rfl,hS,hb⟩;have HS9:=zo hS;have HB9:=zo (HB8.trans (hb.mono HB8.size));clear hS hb))
    |(go_at_call 11;go_loud (refine (Tryz.strings_Count_one S 10 _).mono ?_;rintro e w10 ⟨rfl,rfl⟩))
    |(go_at_call 5;go_loud (refine (CD.out _ HB9.out).mono ?_;rintro e w11 ⟨v2,ys,rfl,hy,ho,_,hb⟩;obtain⟨A5,c5,rfl,_,_⟩:=bg ho;have hyl:ys.length=IL.length:=(by rw[← hy,zI]);have hq:((Lib.countByte S.data.toList 10:Nat):Int)=(IL.length:Int)+(m1:Int):=(by have:=HS9.out;unfold Lib.countByte;omega);rw[hyl];have asa:=zo (HB9.trans (hb.mono HB9.size));clear hb ho hy)))
   go_ret;exact⟨rfl,asa.out⟩
end
section
open Go.RowKit Ex
theorem ahl (A:Option Addr)(l:List UInt8)(c:Nat)(w:World)(p:Nat→Prop)(hG:eT w)(hc:l.length≤c)(h:Rd w p A (bs l)):
 Calls Tryz.prog 3 #[.slice A l.length c] w fun e w'=>e= .returned (.bool true)∧Below w.heap.size w w':=by
 by_cases hb:100 < l.length
 ·exact ahk A l.length c w hG hb
 ·exact ahj A l c w p hG hc zy h fun _ hr ν=>aes hr ν
end
