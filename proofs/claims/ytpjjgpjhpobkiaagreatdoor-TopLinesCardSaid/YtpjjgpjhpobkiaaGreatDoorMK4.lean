/- Parts of the proof of TopLines. -/
import Derived.Test.YtpjjgpjhpobkiaaGreatDoorMX3
import Derived.Lib.BufferMore
import Derived.Sort.CutIn
import Derived.Shelf.Strings.BuilderK
set_option maxHeartbeats 4000000
set_option maxRecDepth 100000
namespace Go.Proofs.YtpjjgpjhpobkiaaGreatDoor
section
open Go.RowKit
def ad2 (s:ByteArray)(k:Nat)(t:Tk):Array Value:=#[.string s,.int .i64 (k:Int),.int .i64 (t.kind:Int),.string ⟨t.text.toArray⟩,.int .i64 (t.n:Int),.int .i64 (t.at_:Int)]
def LX (w:World)(b:Nat)(s:ByteArray)(k:Nat)(t:Tk):Prop:=w.heap[b]? =some (.cells (ad2 s k t) 108 (0,0))
section
variable {w w':World} {b k:Nat} {s:ByteArray} {t:Tk}
theorem LX.lt (h:LX w b s k t):b < w.heap.size:=dV h
theorem LX.cell (h:LX w b s k t):w.cell? ⟨b,0,none⟩=some (.string s)∧w.cell? ⟨b,1,none⟩=some (.int .i64 (k:Int))∧w.cell? ⟨b,2,none⟩=some (.int .i64 (t.kind:Int))∧w.cell? ⟨b,3,none⟩=some (.string ⟨t.text.toArray⟩)∧w.cell? ⟨b,4,none⟩=some (.int .i64 (t.n:Int))∧w.cell? ⟨b,5,none⟩=some (.int .i64 (t.at_:Int)):=by
 unfold LX at h;refine⟨?_,?_,?_,?_,?_,?_⟩<;>(unfold World.cell?;simp only[h];rfl)
theorem LX.frozen (h:LX w b s k t)(i:Nat):w.frozen? ⟨b,i,none⟩=false:=by
 unfold LX at h;unfold World.frozen?;simp only[h];simp
theorem LX.line (h:LX w b s k t):w.cell? ⟨b,0,none⟩=some (.string s)∧w.cell? ⟨b,1,none⟩=some (.int .i64 (k:Int)):=⟨h.cell.1,h.cell.2.1⟩
theorem LX.keep (h:LX w b s k t)(hb:w'.heap[b]? =w.heap[b]?):LX w' b s k t:=hb.trans h
theorem LX.heap (h:LX w b s k t)(hb:w'.heap=w.heap):LX w' b s k t:=h.keep (by rw[hb])
theorem LX.after (h:LX w b s k t)(hb:Below w.heap.size w w'):LX w' b s k t:=h.keep (hb.block b h.lt)
theorem LX.grown (h:LX w b s k t){row:Option Nat}(hg:w.grownBy w' row)(hne:some b≠row):LX w' b s k t:=h.keep (hg.block b h.lt hne)
theorem LX.to (h:LX w b s k t){v:Value}(j:Nat)(hv:v= .int .i64 (j:Int)):LX (w.setCell ⟨b,1,none⟩ v) b s j t:=by
 subst hv;exact Lib.heap_setCell_same h _
theorem LX.tok (h:LX w b s k t)(u:Tk){v2 v3 v4 v5:Value}(h2:v2= .int .i64 (u.kind:Int))(h3:v3= .string ⟨u.text.toArray⟩)(h4:v4= .int .i64 (u.n:Int))(h5:v5= .int .i64 (u.at_:Int)):
 LX ((((w.setCell ⟨b,2,none⟩ v2).setCell ⟨b,3,none⟩ v3).setCell ⟨b,4,none⟩ v4).setCell ⟨b,5,none⟩ v5) b s k u:=by
 subst h2 h3 h4 h5;exact Lib.heap_setCell_same (Lib.heap_setCell_same (Lib.heap_setCell_same (Lib.heap_setCell_same h _) _) _) _
theorem LX.setAt (h:LX w b s k t){v:Value}(j:Nat)(hv:v= .int .i64 (j:Int)):LX (w.setCell ⟨b,5,none⟩ v) b s k ⟨t.kind,t.text,t.n,j⟩:=by
 subst hv;exact Lib.heap_setCell_same h _
end
theorem aW (w:World)(b:Nat):w.grownBy w (some b):=World.grownBy.refl w _
theorem aV {w W:World}{b:Nat}(h:w.grownBy W (some b))(i:Nat)(u:Value):w.grownBy (W.setCell ⟨b,i,none⟩ u) (some b):=grownBy_trans h (grownBy_set W b i u)
theorem fC {w W:World}{b:Nat}(h:w.grownBy W (some b))(v2 v3 v4 v5:Value):w.grownBy ((((W.setCell ⟨b,2,none⟩ v2).setCell ⟨b,3,none⟩ v3).setCell ⟨b,4,none⟩ v4).setCell ⟨b,5,none⟩ v5) (some b):=
 aV (aV (aV (aV h 2 v2) 3 v3) 4 v4) 5 v5
theorem Dy {l:List UInt8}{k:Nat}{c:UInt8}(h:l[k]? =some c):l6 l k=c:=by unfold l6;rw[h];rfl
theorem Ab {l:List UInt8}{j:Nat}{c:UInt8}(h:l[j]? =some c):aY (l.drop j)=if iO c then aY (l.drop (j+1))+1 else 0:=by
 have hj:=M4 h;rw[zK hj,(xw hj).2 h];rfl
theorem BN {l:List UInt8}{j:Nat}{c:UInt8}(h:l[j]? =some c):aR (l.drop j)=if Ap c then aR (l.drop (j+1))+1 else 0:=by
 have hj:=M4 h;rw[zK hj,(xw hj).2 h];rfl
theorem PK {l:List UInt8}{j:Nat}(h:l.length≤j):aY (l.drop j)=0:=by rw[yL h];rfl
theorem KJ {l:List UInt8}{j:Nat}(h:l.length≤j):aR (l.drop j)=0:=by rw[yL h];rfl
def Q6 (w:World)(b:Nat):Nat:=match w.cell? ⟨b,1,none⟩ with|some v=>(intOf v).toNat|none=>0
theorem LX.place {w:World}{b k:Nat}{s:ByteArray}{t:Tk}(h:LX w b s k t):Q6 w b=k:=by
 unfold Q6;rw[h.cell.2.1];simp[intOf]
def sG (W:World)(w':World):Prop:=∃m,w'=W.drewN m
theorem LX.drew {w w':World}{b k:Nat}{s:ByteArray}{t:Tk}(h:LX w b s k t)(hd:sG w w'):LX w' b s k t:=by
 obtain⟨m,rfl⟩:=hd;exact h
theorem dh {w w1 w':World}{b:Nat}(h:w.grownBy w1 (some b))(hd:sG w1 w'):w.grownBy w' (some b):=by
 obtain⟨m,rfl⟩:=hd;exact ak h m
theorem Su {w W:World}{b j k K n:Nat}{s:ByteArray}{t:Tk}{l:List UInt8}{c:UInt8}(hj:k≤j)(hlt:j < s.size)(hX:LX W b s j t)(hR:K=j+aY (l.drop j))(hG:w.grownBy W (some b))(hc:l[j]? =some c)(hl:iO c=true):
 ∃ZC,k≤ZC∧ZC≤s.size∧Hid (LX ((W.drewN n).setCell ⟨b,1,none⟩ (.int .i64 ((j:Int)+1))) b s ZC t)∧Hid (K=ZC+aY (l.drop ZC))∧Hid (w.grownBy ((W.drewN n).setCell ⟨b,1,none⟩ (.int .i64 ((j:Int)+1))) (some b)):=by
 refine⟨j+1,zy,hlt,LX.to (hX.heap (w':=W.drewN n) rfl) (j+1) rfl,?_,aV (ak hG n) 1 _⟩;show _=_;rw[hR,Ab hc,zW hl];omega
theorem M3 {w W:World}{b j k K n:Nat}{s:ByteArray}{t:Tk}{l:List UInt8}{c:UInt8}(hj:k≤j)(hlt:j < s.size)(hX:LX W b s j t)(hR:K=j+aR (l.drop j))(hG:w.grownBy W (some b))(hc:l[j]? =some c)(hl:Ap c=true):
 ∃ZC,k≤ZC∧ZC≤s.size∧Hid (LX ((W.drewN n).setCell ⟨b,1,none⟩ (.int .i64 ((j:Int)+1))) b s ZC t)∧Hid (K=ZC+aR (l.drop ZC))∧Hid (w.grownBy ((W.drewN n).setCell ⟨b,1,none⟩ (.int .i64 ((j:Int)+1))) (some b)):=by
 refine⟨j+1,zy,hlt,LX.to (hX.heap (w':=W.drewN n) rfl) (j+1) rfl,?_,aV (ak hG n) 1 _⟩;show _=_;rw[hR,BN hc,zW hl];omega
theorem Cs {W:World}{b j n:Nat}{s:ByteArray}{t:Tk}(hlt:j < s.size)(hX:LX W b s j t):s.size - Q6 ((W.drewN n).setCell ⟨b,1,none⟩ (.int .i64 ((j:Int)+1))) b < s.size - Q6 W b:=by
 have:=(LX.to (hX.heap (w':=W.drewN n) rfl) (v:=.int .i64 ((j:Int)+1)) (j+1) rfl).place;rw[hX.place,this];omega
theorem Dw {P:Program}{f:FuncId}{args:Array Value}{w:World}{a n:Nat}{v:Value}(h:Calls P f args (w.drewN (a+n)) fun e w'=>e= .returned v∧∃m,w'=(w.drewN (a+n)).drewN m):
 Calls P f args (w.drewN (a+n)) fun e w'=>e= .returned v∧∃m,w'=w.drewN (a+m):=
 h.mono fun _ _ ⟨he,m,hm⟩=>⟨he,n+m,by rw[hm,World.drewN_drewN,wz]⟩
theorem jS {c d:UInt8}(h:c≠d){z:Int}(hz:(d.toNat:Int)=z):((c.toNat:Int) == z)=false:=by
 rw[xe,← hz];intro h2;exact h (xM.1 zy)
theorem RS (b k:Nat)(s:ByteArray)(t:Tk)(w:World)(hs:(s.size:Int)≤140737488355328)(hk:k≤s.size)(h:LX w b s k t):
 Calls Tryz.prog 152 #[.pointer (some ⟨b,0,none⟩)] w fun e w'=>e= .returned (.string (s.extract k (k+aY (s.data.toList.drop k))))∧LX w' b s (k+aY (s.data.toList.drop k)) t∧w.grownBy w' (some b):=by
 obtain⟨l,hl⟩:∃l,s.data.toList=l:=⟨_,rfl⟩;have HA:Hid (∀j (h:j < s.size),∃c:UInt8,s[j]=c∧l[j]? =some c):=by subst hl;exact fun j h=>rE s h
 have HL:Hid (l.length=s.size):=by rw[Hid,← hl];exact bF s
 have CP:Hid (∀(W W':World) (j:Nat),j≤s.size→LX W b s j t→W'.heap=W.heap→Calls Tryz.prog 83 #[.pointer (some ⟨b,0,none⟩)] W' fun e w'=>e= .returned (.int .u8 ((l6 l j).toNat:Int))∧∃m,w'=W'.drewN m):=fun W W' j hj hx hW=>by
  subst hl;exact jv b 0 j s W' hs hj (hx.heap hW).line.1 (hx.heap hW).line.2
 have CL:Hid (∀(c:UInt8) (W:World),Calls Tryz.prog 151 #[.int .u8 (c.toNat:Int)] W fun e w'=>e= .returned (.bool (Cu c))∧w'=W):=fun c W=>(Bz c W).mono fun e w' h=>⟨h.1,h.2.symm⟩
 have CD:Hid (∀(c:UInt8) (W:World),Calls Tryz.prog 153 #[.int .u8 (c.toNat:Int)] W fun e w'=>e= .returned (.bool (kS c))∧w'=W):=fun c W=>(Ba c W).mono fun e w' h=>⟨h.1,h.2.symm⟩
 obtain⟨h0,h1⟩:=h.line;have H:=zo h;rw[hl];obtain⟨K,hK⟩:∃K,k+aY (l.drop k)=K:=⟨_,rfl⟩;have HK:=zo hK;rw[hK];clear hl h hK;go_enter Tryz.func152,Tryz.ntmps152;go_wp2;clear h0 h1
 go_loopw [] (fun wr=>∃j,k≤j∧j≤s.size∧Hid (LX wr b s j t)∧Hid (K=j+aY (l.drop j))∧Hid (w.grownBy wr (some b))) (fun wr=>s.size - Q6 wr b)
 case atStart=>exact⟨k,zn _,hk,H,HK.symm,aW w b⟩
 case round=>
  obtain⟨j,hkj,hj,hX,hR,hG⟩:=hrel;obtain⟨h0,h1⟩:=hX.line;have hf:=hX.frozen 1;have HM:=zo (hX.place);by_cases hlt:j < s.size
  ·have hji:(j:Int) < (s.size:Int):=zy;obtain⟨c,hc,hlc⟩:=HA.out j hlt;have HC:=zo hlc
   have CP':Hid (∀W:World,W.heap=wr.heap→Calls Tryz.prog 83 #[.pointer (some ⟨b,0,none⟩)] W fun e w'=>e= .returned (.int .u8 (c.toNat:Int))∧∃m,w'=W.drewN m):=fun W hW=>by
    have:=CP.out wr W j hj hX.out hW;rw[Dy hlc] at this;exact this
   have CL':=zo (CL.out c);have CD':=zo (CD.out c);clear hlc;by_cases hld:iO c=true
   ·have HLD:=zo hld;rcases hb:Cu c with _|_
    ·have hd:kS c=true:=by
      unfold iO at hld;rw[hb] at hld;exact hld
     rw[hb] at CL';rw[hd] at CD';clear hld hb hd;go_wp2
     go_quiet (first
      |(go_at_call 83;exact Calls.quiet_of (CP'.out _ rfl))
      |(go_at_call 151;exact Calls.quiet_of_same (CL'.out _))
      |(go_at_call 153;exact Calls.quiet_of_same (CD'.out _)))
     go_wp2
     go_round
     case rel=>exact Su hkj hlt hX.out hR.out hG.out HC.out HLD.out
     case measure=>exact Cs hlt hX.out
    ·rw[hb] at CL';clear hld hb;go_wp2
     go_quiet (first
      |(go_at_call 83;exact Calls.quiet_of (CP'.out _ rfl))
      |(go_at_call 151;exact Calls.quiet_of_same (CL'.out _))
      |(go_at_call 153;exact Calls.quiet_of_same (CD'.out _)))
     go_wp2
     go_round
     case rel=>exact Su hkj hlt hX.out hR.out hG.out HC.out HLD.out
     case measure=>exact Cs hlt hX.out
   ·have hb:Cu c=false∧kS c=false:=by
     unfold iO at hld
     simpa using hld
    obtain rfl:K=j:=by
     rw[hR.out,Ab HC.out,za hld];rfl
    rw[hb.1] at CL';rw[hb.2] at CD';clear hld hb;go_wp2
    go_quiet (first
     |(go_at_call 83;exact Calls.quiet_of (CP'.out _ rfl))
     |(go_at_call 151;exact Calls.quiet_of_same (CL'.out _))
     |(go_at_call 153;exact Calls.quiet_of_same (CD'.out _)))
    go_wp2;go_quiet (fail);go_wp2;go_ret;exact⟨rfl,hX.out,ak (ak hG.out _) _⟩
  ·have hji:(s.size:Int)≤(j:Int):=zy;have hjs:(j:Int)≤(s.size:Int):=zy;have hki:(k:Int)≤(j:Int):=zy
   obtain rfl:K=j:=by
    rw[hR.out,PK (by have:=HL.out;omega)]
    rfl
   go_wp2;go_quiet (fail);go_wp2;go_quiet (fail);go_wp2;go_ret;exact⟨rfl,hX.out,ak (ak hG.out _) _⟩
theorem QZ (b k:Nat)(s:ByteArray)(t:Tk)(w:World)(hs:(s.size:Int)≤140737488355328)(hk:k≤s.size)(h:LX w b s k t):
 Calls Tryz.prog 38 #[.pointer (some ⟨b,0,none⟩)] w fun e w'=>e= .returned (.bool (!qY ((s.data.toList.drop k).drop (aR (s.data.toList.drop k)))))∧LX w' b s (k+aR (s.data.toList.drop k)) t∧w.grownBy w' (some b):=by
 obtain⟨l,hl⟩:∃l,s.data.toList=l:=⟨_,rfl⟩;have HA:Hid (∀j (h:j < s.size),∃c:UInt8,s[j]=c∧l[j]? =some c):=by subst hl;exact fun j h=>rE s h
 have HL:Hid (l.length=s.size):=by rw[Hid,← hl];exact bF s
 have CP:Hid (∀(W W':World) (j:Nat),j≤s.size→LX W b s j t→W'.heap=W.heap→Calls Tryz.prog 83 #[.pointer (some ⟨b,0,none⟩)] W' fun e w'=>e= .returned (.int .u8 ((l6 l j).toNat:Int))∧∃m,w'=W'.drewN m):=fun W W' j hj hx hW=>by
  subst hl;exact jv b 0 j s W' hs hj (hx.heap hW).line.1 (hx.heap hW).line.2
 have H:=zo h;rw[hl,xI];obtain⟨K,hK⟩:∃K,k+aR (l.drop k)=K:=⟨_,rfl⟩;have HK:=zo hK;rw[hK];obtain⟨B,hB⟩:∃B,(!qY (l.drop K))=B:=⟨_,rfl⟩;have HB:=zo hB;rw[hB];clear hl h hK hB;go_enter Tryz.func38,Tryz.ntmps38;go_wp2
 go_loopw [] (fun wr=>∃j,k≤j∧j≤s.size∧Hid (LX wr b s j t)∧Hid (K=j+aR (l.drop j))∧Hid (w.grownBy wr (some b))) (fun wr=>s.size - Q6 wr b)
 case atStart=>exact⟨k,zn _,hk,H,HK.symm,aW w b⟩
 case round=>
  obtain⟨j,hkj,hj,hX,hR,hG⟩:=hrel;obtain⟨h0,h1⟩:=hX.line;have hf:=hX.frozen 1;by_cases hlt:j < s.size
  ·have hji:(j:Int) < (s.size:Int):=zy;obtain⟨c,hc,hlc⟩:=HA.out j hlt;have HC:=zo hlc
   have CP':Hid (∀W:World,W.heap=wr.heap→Calls Tryz.prog 83 #[.pointer (some ⟨b,0,none⟩)] W fun e w'=>e= .returned (.int .u8 (c.toNat:Int))∧∃m,w'=W.drewN m):=fun W hW=>by
    have:=CP.out wr W j hj hX.out hW;rw[Dy hlc] at this;exact this
   clear hlc;by_cases h32:c=32
   ·have HLD:Hid (Ap c=true):=by rw[h32];rfl
    have d1:((c.toNat:Int) == 32)=true:=by rw[h32];rfl
    clear h32;go_wp2;go_quiet ((go_at_call 83;exact Calls.quiet_of (CP'.out _ rfl)));go_wp2
    go_round
    case rel=>exact M3 hkj hlt hX.out hR.out hG.out HC.out HLD.out
    case measure=>exact Cs hlt hX.out
   ·have d1:((c.toNat:Int) == 32)=false:=jS h32 zx;by_cases h9:c=9
    ·have HLD:Hid (Ap c=true):=by rw[h9];rfl
     have d2:((c.toNat:Int) == 9)=true:=by rw[h9];rfl
     clear h32 h9;go_wp2;go_quiet ((go_at_call 83;exact Calls.quiet_of (CP'.out _ rfl)));go_wp2
     go_round
     case rel=>exact M3 hkj hlt hX.out hR.out hG.out HC.out HLD.out
     case measure=>exact Cs hlt hX.out
    ·have d2:((c.toNat:Int) == 9)=false:=jS h9 zx
     obtain rfl:K=j:=by
      rw[hR.out,BN HC.out,za (by unfold Ap;simp[h32,h9])]
      rfl
     have HE:Hid (qY (l.drop K)=(c == 59)):=by
      show _=_;have hj':=M4 HC.out;rw[zK hj',(xw hj').2 HC.out];rfl
     clear h32 h9;by_cases h59:c=59
     ·have d3:((c.toNat:Int) != 59)=false:=by rw[h59];rfl
      obtain rfl:B=false:=by rw[← HB.out,HE.out,h59];rfl
      clear h59;go_wp2;go_quiet ((go_at_call 83;exact Calls.quiet_of (CP'.out _ rfl)));go_wp2;go_quiet ((go_at_call 83;exact Dw (CP'.out _ rfl)));go_wp2;go_ret;exact⟨rfl,hX.out,ak (ak hG.out _) _⟩
     ·have d3:((c.toNat:Int) != 59)=true:=by rw[bne,jS h59 (z:=59) zx];rfl
      obtain rfl:B=true:=by rw[← HB.out,HE.out];simp[h59]
      clear h59;go_wp2;go_quiet ((go_at_call 83;exact Calls.quiet_of (CP'.out _ rfl)));go_wp2;go_quiet ((go_at_call 83;exact Dw (CP'.out _ rfl)));go_wp2;go_ret;exact⟨rfl,hX.out,ak (ak hG.out _) _⟩
  ·have hji:(s.size:Int)≤(j:Int):=zy
   obtain rfl:K=j:=by
    rw[hR.out,KJ (by have:=HL.out;omega)]
    rfl
   obtain rfl:B=false:=by
    rw[← HB.out,yL (by have:=HL.out;omega)]
    rfl
   go_wp2;go_quiet (fail);go_wp2;go_quiet (fail);go_wp2;go_ret;exact⟨rfl,hX.out,ak (ak hG.out _) _⟩
theorem O5 {l:List UInt8}{k:Nat}(h:Cu (l6 l k)=false):eB (l.drop k)=0:=by
 cases hd:l.drop k with
 |nil=>rfl
 |cons c r=>
  rw[fJ];have:l6 l k=c:=by rw[tu,hd];rfl
  rw[this] at h;rw[h];rfl
theorem aiK {c:UInt8}(h:Cu c=true):iO c=true:=by unfold iO;rw[h];rfl
theorem ZF {l:List UInt8}{k:Nat}(h:Cu (l6 l k)=true):k < l.length∧1≤aY (l.drop k):=by
 rcases zP k l.length with hk|hk
 ·refine⟨hk,?_⟩;have hc:l[k]? =some l[k]:=zg hk;rw[Dy hc] at h;rw[Ab hc,zW (aiK h)];omega
 ·unfold l6 at h;rw[yo hk] at h
  cases h
theorem LB {l:List UInt8}{k:Nat}(h:Cu (l6 l k)=true):
 eB (l.drop k)=if ZG ((l.drop k).take (aY (l.drop k)))=true∧l[k+aY (l.drop k)]? =some 39 then aY (l.drop k)+1 else aY (l.drop k):=by
 cases hd:l.drop k with
 |nil=>have:=ZF h;rw[hd] at this;simp[aY] at this
 |cons c r=>
  have:l6 l k=c:=by rw[tu,hd];rfl
  rw[this] at h;rw[fJ,zW h,← hd,yg];simp only[Bool.and_eq_true,beq_iff_eq]
def OH (w:World)(b k:Nat)(s:ByteArray)(t:Tk)(n:Nat)(e:Ending)(w':World):Prop:=
 w.grownBy w' (some b)∧
   ((n=0∧e= .returned (.tuple #[.bool false,.int .i64 0])∧LX w' b s k t)∨
    (0 < n∧e= .returned (.tuple #[.bool true,.int .i64 0])∧LX w' b s (k+n) ⟨1,(s.data.toList.drop k).take n,0,0⟩))
theorem uE {s:ByteArray}{k m:Nat}:(s.extract k m).data.toList=(s.data.toList.drop k).take (m - k):=by
 rw[ByteArray.data_extract,Array.toList_extract,List.extract_eq_take_drop]
theorem uO {s:ByteArray}{l:List UInt8}(h:s.data.toList=l):s=⟨l.toArray⟩:=by
 apply xn;apply Array.toList_inj.1;rw[h]
theorem WZ (b k:Nat)(s:ByteArray)(t:Tk)(w:World)(hs:(s.size:Int)≤140737488355328)(hk:k≤s.size)(h:LX w b s k t):
 Calls Tryz.prog 84 #[.pointer (some ⟨b,0,none⟩)] w (OH w b k s t (eB (s.data.toList.drop k))):=by
 obtain⟨l,hl⟩:∃l,s.data.toList=l:=⟨_,rfl⟩;obtain⟨c,hc⟩:∃c,l6 l k=c:=⟨_,rfl⟩
 have CP:Hid (Calls Tryz.prog 83 #[.pointer (some ⟨b,0,none⟩)] w fun e w'=>e= .returned (.int .u8 (c.toNat:Int))∧sG w w'):=by
  subst hl hc;exact jv b 0 k s w hs hk h.line.1 h.line.2
 have CL:Hid (∀W:World,Calls Tryz.prog 151 #[.int .u8 (c.toNat:Int)] W fun e w'=>e= .returned (.bool (Cu c))∧W=w'):=fun W=>Bz c W
 have H:=zo h;have kP:=zo hl;obtain⟨N,hN⟩:∃N,eB (l.drop k)=N:=⟨_,rfl⟩;rw[hl,hN];rcases hb:Cu c with _|_
 ·rw[hb] at CL;have HN:Hid (N=0):=by subst hc;exact hN.symm.trans (O5 hb)
  clear hl hc hN hb h;go_enter Tryz.func84,Tryz.ntmps84
  go_wp2_with (first
   |(go_at_call 83;refine CP.mono ?_;rintro e w1 ⟨rfl,hd⟩;have D1:=zo hd;clear hd)
   |(go_at_call 151;refine (CL.out _).mono ?_;rintro e w2 ⟨rfl,rfl⟩))
  go_ret2;exact⟨dh (aW w b) D1.out,.inl ⟨HN.out,rfl,H.drew D1.out⟩⟩
 ·rw[hb] at CL;subst hc;obtain⟨hkl,hr1⟩:=ZF hb;have hw:=LB hb;have Nz:=mf (l.drop k);rw[zH] at Nz;obtain⟨r,hr⟩:∃r,aY (l.drop k)=r:=⟨_,rfl⟩;rw[hr] at hr1 hw Nz;have hLs:l.length=s.size:=by rw[← hl];exact bF s
  obtain⟨S,hS⟩:∃S,s.extract k (k+r)=S:=⟨_,rfl⟩;have SX:S.data.toList=(l.drop k).take r:=by rw[← hS,uE,hl,xJ]
  have hSs:S.size=r:=by rw[← bF,SX,zJ,zH];omega
  obtain⟨U,hU⟩:∃U:ByteArray,(⟨(S.data.toList.map gQ).toArray⟩:ByteArray)=U:=⟨_,rfl⟩
  have CR:Hid (∀W:World,LX W b s k t→Calls Tryz.prog 152 #[.pointer (some ⟨b,0,none⟩)] W fun e w'=>e= .returned (.string S)∧LX w' b s (k+r) t∧W.grownBy w' (some b)):=fun W hW=>by
   have:=RS b k s t W hs hk hW;rw[hl,hr,hS] at this;exact this
  have CU:Hid (∀W:World,Calls Tryz.prog 45 #[.string S] W fun e w'=>e= .returned (.string U)∧Below W.heap.size W w'):=fun W=>by
   have:=jU S W (by unfold maxLen;omega)
   rw[hU] at this;exact this
  have CP2:Hid (∀W:World,LX W b s (k+r) t→Calls Tryz.prog 83 #[.pointer (some ⟨b,0,none⟩)] W fun e w'=>e= .returned (.int .u8 ((l6 l (k+r)).toNat:Int))∧sG W w'):=fun W hW=>by
   subst hl;exact jv b 0 (k+r) s W hs zy hW.line.1 hW.line.2
  have hAF:ZG ((l.drop k).take r)=(U.toList == [65,70]):=by
   rw[xH,← hU,SX];rfl
  by_cases haf:ZG ((l.drop k).take r)=true
  ·have d0:(U.toList == [65,70])=true:=by rw[← hAF];exact haf
   obtain⟨q,hq⟩:∃q,l6 l (k+r)=q:=⟨_,rfl⟩;rw[hq] at CP2;by_cases h39:q=39
   ·have d1:((q.toNat:Int) == 39)=true:=by rw[h39];rfl
    have aiX:l[k+r]? =some 39:=by
     rcases zP (k+r) l.length with h'|h'
     ·rw[zg h'];rw[Dy (zg h')] at hq;rw[hq,h39]
     ·unfold l6 at hq;rw[yo h',h39] at hq
      cases hq
    have HN:Hid (N=r+1):=by
     show _=_;rw[← hN,hw,zW ⟨haf,aiX⟩]
    have HT:Hid (S++⟨#[39]⟩=⟨((l.drop k).take (r+1)).toArray⟩):=uO (by
     rw[vQ,vH,SX,xh,yg,aiX];rfl)
    have hS2:(S.size:Int)≤140737488355328:=zy;have hkr:((k+r:Nat):Int)≤140737488355328:=zy;clear hl hN hb hw Nz hr hLs hS SX hSs hU hAF haf h hq h39 aiX;go_enter Tryz.func84,Tryz.ntmps84
    go_wp2_with (first
     |(go_at_call 83;(with_reducible refine CP.out.mono ?_);rintro e w1 ⟨rfl,hd⟩;have X1:=zo (H.out.drew hd);have G1:=zo (dh (aW w b) hd);clear hd)
     |(go_at_call 151;refine (CL.out _).mono ?_;rintro e w2 ⟨rfl,rfl⟩)
     |(go_at_call 152;refine (CR.out _ X1.out).mono ?_;rintro e w3 ⟨rfl,hx,hg⟩;have X3:=zo hx;have G3:=zo (grownBy_trans G1.out hg);clear hx hg)
     |(go_at_call 45;refine (CU.out _).mono ?_;rintro e w4 ⟨rfl,hb⟩;have X4:=zo (X3.after hb);have G4:=zo (grownBy_trans G3.out (grownBy_below hb (some b)));clear hb)
     |(go_at_call 83;refine (CP2.out _ X4.out).mono ?_;rintro e w5 ⟨rfl,hd⟩;have X5:=X4.drew hd;have G5:=zo (dh G4.out hd);obtain⟨c0,c1,c2,c3,c4,c5⟩:=X5.cell;have f1:=X5.frozen 1;have f2:=X5.frozen 2;have f3:=X5.frozen 3;have f4:=X5.frozen 4;have f5:=X5.frozen 5;have X6:=zo X5;clear X5 hd))
    go_ret2;exact⟨fC (aV G5.out 1 _) _ _ _ _,.inr ⟨by rw[HN.out];exact Nat.succ_pos _,rfl,by rw[HN.out];exact (X6.to (k+(r+1)) (by go_num)).tok ⟨1,_,0,0⟩ rfl (by rw[HT.out,kP.out]) rfl rfl⟩⟩
   ·have d1:((q.toNat:Int) == 39)=false:=jS h39 zx
    have HN:Hid (N=r):=by
     show _=_;rw[← hN,hw,za (fun h=>h39 (by rw[← hq];exact Dy h.2))]
    have HT:Hid (S=⟨((l.drop k).take r).toArray⟩):=uO SX;have hr0:=hr1;clear hl hN hb hw Nz hr hLs hS SX hSs hU hAF haf h hq h39;go_enter Tryz.func84,Tryz.ntmps84
    go_wp2_with (first
     |(go_at_call 83;(with_reducible refine CP.out.mono ?_);rintro e w1 ⟨rfl,hd⟩;have X1:=zo (H.out.drew hd);have G1:=zo (dh (aW w b) hd);clear hd)
     |(go_at_call 151;refine (CL.out _).mono ?_;rintro e w2 ⟨rfl,rfl⟩)
     |(go_at_call 152;refine (CR.out _ X1.out).mono ?_;rintro e w3 ⟨rfl,hx,hg⟩;have X3:=zo hx;have G3:=zo (grownBy_trans G1.out hg);clear hx hg)
     |(go_at_call 45;refine (CU.out _).mono ?_;rintro e w4 ⟨rfl,hb⟩;have X4:=zo (X3.after hb);have G4:=zo (grownBy_trans G3.out (grownBy_below hb (some b)));clear hb)
     |(go_at_call 83;refine (CP2.out _ X4.out).mono ?_;rintro e w5 ⟨rfl,hd⟩;have X5:=X4.drew hd;have G5:=zo (dh G4.out hd);obtain⟨c0,c1,c2,c3,c4,c5⟩:=X5.cell;have f2:=X5.frozen 2;have f3:=X5.frozen 3;have f4:=X5.frozen 4;have f5:=X5.frozen 5;have X6:=zo X5;clear X5 hd))
    go_ret2;exact⟨fC G5.out _ _ _ _,.inr ⟨by rw[HN.out];exact hr0,rfl,by rw[HN.out];exact X6.tok ⟨1,_,0,0⟩ rfl (by rw[HT.out,kP.out]) rfl rfl⟩⟩
  ·have d0:(U.toList == [65,70])=false:=by rw[← hAF];simpa using haf
   have HN:Hid (N=r):=by
    show _=_;rw[← hN,hw,za (fun h=>haf h.1)]
   have HT:Hid (S=⟨((l.drop k).take r).toArray⟩):=uO SX;have hr0:=hr1;clear hl hN hb hw Nz hr hLs hS SX hSs hU hAF haf h;go_enter Tryz.func84,Tryz.ntmps84
   go_wp2_with (first
    |(go_at_call 83;refine CP.mono ?_;rintro e w1 ⟨rfl,hd⟩;have X1:=zo (H.drew hd);have G1:=zo (dh (aW w b) hd);clear hd)
    |(go_at_call 151;refine (CL.out _).mono ?_;rintro e w2 ⟨rfl,rfl⟩)
    |(go_at_call 152;refine (CR.out _ X1.out).mono ?_;rintro e w3 ⟨rfl,hx,hg⟩;have X3:=zo hx;have G3:=zo (grownBy_trans G1.out hg);clear hx hg)
    |(go_at_call 45;refine (CU.out _).mono ?_;rintro e w4 ⟨rfl,hb⟩;have X4:=X3.after hb;have G4:=zo (grownBy_trans G3.out (grownBy_below hb (some b)));obtain⟨c0,c1,c2,c3,c4,c5⟩:=X4.cell;have f2:=X4.frozen 2;have f3:=X4.frozen 3;have f4:=X4.frozen 4;have f5:=X4.frozen 5;have X5:=zo X4;clear X4 hb))
   go_ret2;exact⟨fC G4.out _ _ _ _,.inr ⟨by rw[HN.out];exact hr0,rfl,by rw[HN.out];exact X5.tok ⟨1,_,0,0⟩ rfl (by rw[HT.out,kP.out]) rfl rfl⟩⟩
theorem Da (u m:List UInt8):(Lib.trimPrefix u m).length≤u.length:=by
 unfold Lib.trimPrefix;split
 ·rw[zH];omega
 ·exact zn _
theorem LJ (u m:List UInt8):(Lib.trimSuffix u m).length≤u.length:=by
 unfold Lib.trimSuffix;split
 ·rw[zJ];omega
 ·exact zn _
theorem aeW (l:List UInt8)(k:Nat):(lX l k).1.length≤l.length:=by
 have e:(l.map gQ).length=l.length:=zI ..;unfold lX;split
 ·exact zn _
 ·exact e ▸ Da (l.map gQ) [48,88]
 ·exact e ▸ Da (l.map gQ) [36]
 ·exact e ▸ LJ (l.map gQ) [72]
 ·exact e ▸ LJ (l.map gQ) [66]
 ·exact e ▸ Da (l.map gQ) [37]
theorem Ey (w:World):(iK w).heap.size=w.heap.size+5:=by simp[iK]
theorem Cb (w:World):Below w.heap.size w (iK w):=
 (((((zh _ _).alloc (zn _) _).alloc zw _).alloc zu _).alloc zu _).alloc zu _
theorem QD {w W:World}(h:Below (w.heap.size+5) (iK w) W):
 (∀(i:Nat) v,(ji w.heap.size)[i]? =some v→W.cell? ⟨w.heap.size+4,i,none⟩=some v)∧W.cell? ⟨w.heap.size,0,none⟩=some (.string ⟨#[48,88]⟩)∧W.cell? ⟨w.heap.size+1,0,none⟩=some (.string ⟨#[36]⟩)∧
   W.cell? ⟨w.heap.size+2,0,none⟩=some (.string ⟨#[66]⟩)∧W.cell? ⟨w.heap.size+3,0,none⟩=some (.string ⟨#[37]⟩):=by
 obtain⟨a0,ha0⟩:∃a,w.alloc (.cells #[.string ⟨#[48,88]⟩] 9)=a:=⟨_,rfl⟩;obtain⟨a1,ha1⟩:∃a,a0.alloc (.cells #[.string ⟨#[36]⟩] 9)=a:=⟨_,rfl⟩;obtain⟨a2,ha2⟩:∃a,a1.alloc (.cells #[.string ⟨#[66]⟩] 9)=a:=⟨_,rfl⟩;obtain⟨a3,ha3⟩:∃a,a2.alloc (.cells #[.string ⟨#[37]⟩] 9)=a:=⟨_,rfl⟩;obtain⟨a4,ha4⟩:∃a,a3.alloc (.cells (ji w.heap.size) 333)=a:=⟨_,rfl⟩;have hf:iK w=a4:=by rw[← ha4,← ha3,← ha2,← ha1,← ha0];rfl
 have s0:a0.heap.size=w.heap.size+1:=by rw[← ha0,zU]
 have s1:a1.heap.size=w.heap.size+2:=by rw[← ha1,zU,s0]
 have s2:a2.heap.size=w.heap.size+3:=by rw[← ha2,zU,s1]
 have s3:a3.heap.size=w.heap.size+4:=by rw[← ha3,zU,s2]
 have b43:Below a3.heap.size a3 a4:=by rw[← ha4];exact (zh _ _).alloc (zn _) _
 have b32:Below a2.heap.size a2 a3:=by rw[← ha3];exact (zh _ _).alloc (zn _) _
 have b21:Below a1.heap.size a1 a2:=by rw[← ha2];exact (zh _ _).alloc (zn _) _
 have b10:Below a0.heap.size a0 a1:=by rw[← ha1];exact (zh _ _).alloc (zn _) _
 have b42:=b32.trans (b43.mono b32.size);have b41:=b21.trans (b42.mono b21.size);have b40:=b10.trans (b41.mono b10.size);have n0:a0.heap[w.heap.size]? =some (.cells #[.string ⟨#[48,88]⟩] 9 (0,0)):=by rw[← ha0];exact yJ w _
 have n1:a1.heap[w.heap.size+1]? =some (.cells #[.string ⟨#[36]⟩] 9 (0,0)):=by rw[← ha1,← s0];exact yJ a0 _
 have n2:a2.heap[w.heap.size+2]? =some (.cells #[.string ⟨#[66]⟩] 9 (0,0)):=by rw[← ha2,← s1];exact yJ a1 _
 have n3:a3.heap[w.heap.size+3]? =some (.cells #[.string ⟨#[37]⟩] 9 (0,0)):=by rw[← ha3,← s2];exact yJ a2 _
 have n4:a4.heap[w.heap.size+4]? =some (.cells (ji w.heap.size) 333 (0,0)):=by
  have:=yJ a3 (.cells (ji w.heap.size) 333);rw[ha4,s3] at this;exact this
 have h0:=(b40.block _ zy).trans n0;have h1:=(b41.block _ zy).trans n1;have h2:=(b42.block _ zy).trans n2;have h3:=(b43.block _ zy).trans n3;have h4:=n4;rw[hf] at h;refine⟨fun i v hv=>?_,?_,?_,?_,?_⟩
 ·rw[h.cell (p:=⟨w.heap.size+4,i,none⟩) (by show w.heap.size+4 < _;omega)]
  simp only[World.cell?,h4];exact hv
 ·rw[h.cell (p:=⟨w.heap.size,0,none⟩) (by show w.heap.size < _;omega)]
  simp[World.cell?,h0]
 ·rw[h.cell (p:=⟨w.heap.size+1,0,none⟩) (by show w.heap.size+1 < _;omega)]
  simp[World.cell?,h1]
 ·rw[h.cell (p:=⟨w.heap.size+2,0,none⟩) (by show w.heap.size+2 < _;omega)]
  simp[World.cell?,h2]
 ·rw[h.cell (p:=⟨w.heap.size+3,0,none⟩) (by show w.heap.size+3 < _;omega)]
  simp[World.cell?,h3]
theorem qG {l:List UInt8}{k:Nat}(h:(lX l k).2=false):rZ l k=none:=by unfold rZ;rw[h];rfl
theorem gm {l:List UInt8}{k:Nat}{D:ByteArray}{r:Option Nat}(h:(lX l k).2=true)(hD:(⟨(lX l k).1.toArray⟩:ByteArray)=D)(hr:gU (agJ k) D.data.toList=r):rZ l k=r:=by
 unfold rZ;rw[h,← hr,← hD];rfl
theorem bI {n:Nat}{w W W':World}{o:Obj}(h:Below n w W)(h':Below (W.alloc o).heap.size (W.alloc o) W')(hn:n≤W.heap.size):Below n w W':=(h.alloc hn o).trans (h'.mono zu)
theorem UQ (s:ByteArray)(w:World)(hs:(s.size:Int)≤140737488355328):
 Calls Tryz.prog 154 #[.string s] w fun e w'=>e= .returned (dgV (oq s.data.toList))∧Below w.heap.size w w':=by
 have CF:=zo (VO w);obtain⟨w0,hw0⟩:∃w0,iK w=w0:=⟨_,rfl⟩;obtain⟨g,hg⟩:∃g,w.heap.size=g:=⟨_,rfl⟩
 have FC:Hid (∀W:World,Below (g+5) w0 W→(∀(i:Nat) v,(ji g)[i]? =some v→W.cell? ⟨g+4,i,none⟩=some v)∧W.cell? ⟨g,0,none⟩=some (.string ⟨#[48,88]⟩)∧W.cell? ⟨g+1,0,none⟩=some (.string ⟨#[36]⟩)∧W.cell? ⟨g+2,0,none⟩=some (.string ⟨#[66]⟩)∧W.cell? ⟨g+3,0,none⟩=some (.string ⟨#[37]⟩)):=by
  subst hw0;subst hg;exact fun W h=>QD h
 have B0:Hid (Below g w w0):=by subst hw0;subst hg;exact Cb w
 have hz0:g+5=w0.heap.size:=by subst hw0;subst hg;exact (Ey w).symm
 rw[hw0,hg] at CF;have HS:=zo hs;have HG:=zo hg;have CD:Hid (∀(b:Nat) (D:ByteArray) (W:World),2≤(b:Int)→(b:Int)≤16→D.size≤s.size→Calls Tryz.prog 220 #[.string D,.int .i64 (b:Int)] W fun e w'=>e= .returned (dgV (gU b D.data.toList))∧W=w'):=fun b D W h1 h2 h3=>QM b h1 h2 D W zy
 have DL:Hid (∀(k:Nat) (D:ByteArray),(⟨(lX s.data.toList k).1.toArray⟩:ByteArray)=D→D.size≤s.size):=fun k D h=>by
  have h1:=aeW s.data.toList k;rw[bF] at h1;rw[← h,← bF];exact h1
 clear hs hg hw0;go_enter Tryz.func154,Tryz.ntmps154
 go_wp2_with (go_at_call 219;refine CF.mono ?_;rintro e w1 ⟨rfl,rfl⟩)
 go_loopw [12] (fun v W=>∃k:Nat,k≤6∧v= .int .i64 k∧Hid (∀j,j < k→rZ s.data.toList j=none)∧Hid (Below (g+5) w0 W)) (fun v _=>6 - (intOf v).toNat)
 case atStart=>exact⟨0,zy,rfl,fun j hj=>absurd hj zy,zh _ _⟩
 case round=>
  obtain⟨k,hk,rfl,hT,hB⟩:=hrel;obtain⟨hF,m0,m1,m2,m3⟩:=FC.out wr hB.out;have HM0:=zo m0;have HM1:=zo m1;have HM2:=zo m2;have HM3:=zo m3;have hsz:g+5≤wr.heap.size:=by have:=hB.size;omega
  have IP:=zo hsz;have MB:Hid (∀(b:Nat) (v:Value) W,b < g+5→wr.cell? ⟨b,0,none⟩=some v→Below wr.heap.size wr W→W.cell? ⟨b,0,none⟩=some v):=fun b v W hb hv hW=>(hW.cell (p:=⟨b,0,none⟩) (by show b < _;omega)).trans hv
  have hcase:k=0∨k=1∨k=2∨k=3∨k=4∨k=5∨k=6:=zy;clear m0 m1 m2 m3 hsz;rcases hcase with rfl|rfl|rfl|rfl|rfl|rfl|rfl
  ·have c0:wr.cell? ⟨g+4,0,none⟩=some (.int .i64 10):=hF 0 _ rfl;have c1:wr.cell? ⟨g+4,1,none⟩=some (.func (.func 281) #[] #[]):=hF 1 _ rfl;have hst:∀(a:Addr) (m:Mode) (W:World),Sem.run Tryz.prog (store a (.func (.func 281) #[] #[]) m) W=stored Tryz.prog W a (.func (.func 281) #[] #[]) m:=fun a m W=>wD Tryz.prog W a _ m rfl
   obtain⟨D,hD⟩:∃D:ByteArray,(⟨(lX s.data.toList 0).1.toArray⟩:ByteArray)=D:=⟨_,rfl⟩;obtain⟨ok,hok⟩:∃ok,(lX s.data.toList 0).2=ok:=⟨_,rfl⟩;have CK:Hid (∀W:World,Below wr.heap.size wr W→Calls Tryz.prog 281 #[.string s] W fun e w'=>e= .returned (.tuple #[.string D,.bool ok])∧Below W.heap.size W w'):=fun W _=>(aaY s W).mono fun e w' ⟨h1,h2⟩=>⟨by rw[h1,← hD,← hok];simp[lX],by rw[h2];exact zh _ _⟩
   have HA:Hid (Below wr.heap.size wr (wr.alloc (.cells #[.int .i64 10,.func (.func 281) #[] #[]] 333))):=(zh _ _).alloc (zn _) _
   cases ok with
   |false=>
    have HF:=zo (qG hok);clear hF hD hok
    go_wp2_with (go_at_call 281;refine (CK.out _ HA.out).mono ?_;rintro e w2 ⟨rfl,hb⟩;have B2:=zo (bI hB.out hb IP.out);clear hb)
    go_roundw
    case rel=>exact⟨1,zy,by first|rfl|go_num,tried hT.out HF.out,B2.out⟩
    case measure=>simp[intOf]
   |true=>
    have jE:Hid (∀W:World,Calls Tryz.prog 220 #[.string D,.int .i64 10] W fun e w'=>e= .returned (dgV (gU 10 D.data.toList))∧W=w'):=fun W=>CD.out 10 D W zx zx (DL.out _ D hD)
    cases hr:gU 10 D.data.toList with
    |none=>
     have HF:=zo (gm (k:=0) hok hD hr);rw[hr] at jE;have jE:Hid (∀W:World,Calls Tryz.prog 220 #[.string D,.int .i64 10] W fun e w'=>e= .returned (.tuple #[.int .i64 0,.bool false])∧W=w'):=jE.out
     clear hF hD hok hr
     go_wp2_with (first
      |(go_at_call 281;refine (CK.out _ HA.out).mono ?_;rintro e w2 ⟨rfl,hb⟩;have B2:=zo (bI hB.out hb IP.out);have e0:w2.cell? ⟨wr.heap.size,0,none⟩=some (.int .i64 10):=(hb.cell (p:=⟨wr.heap.size,0,none⟩) zw).trans (by unfold World.cell?;simp only[heap_alloc_new];rfl);clear hb)
      |(go_at_call 220;refine (jE.out _).mono ?_;rintro e w3 ⟨rfl,rfl⟩))
     go_roundw
     case rel=>exact⟨1,zy,by first|rfl|go_num,tried hT.out HF.out,B2.out⟩
     case measure=>simp[intOf]
    |some n=>
     have HP:=zo (jc zx hT.out (gm (k:=0) hok hD hr));rw[hr] at jE;have jE:Hid (∀W:World,Calls Tryz.prog 220 #[.string D,.int .i64 10] W fun e w'=>e= .returned (.tuple #[.int .i64 (n:Int),.bool true])∧W=w'):=jE.out
     clear hF hD hok hr
     go_wp2_with (first
      |(go_at_call 281;refine (CK.out _ HA.out).mono ?_;rintro e w2 ⟨rfl,hb⟩;have B2:=zo (bI hB.out hb IP.out);have e0:w2.cell? ⟨wr.heap.size,0,none⟩=some (.int .i64 10):=(hb.cell (p:=⟨wr.heap.size,0,none⟩) zw).trans (by unfold World.cell?;simp only[heap_alloc_new];rfl);clear hb)
      |(go_at_call 220;refine (jE.out _).mono ?_;rintro e w3 ⟨rfl,rfl⟩))
     go_ret2;exact⟨by rw[HP.out];rfl,by rw[HG.out];exact B0.trans (B2.mono zy)⟩
  ·have c0:wr.cell? ⟨g+4,2,none⟩=some (.int .i64 16):=hF 2 _ rfl;have c1:wr.cell? ⟨g+4,3,none⟩=some (.func (.func 342) #[] #[.pointer (some ⟨g,0,none⟩)]):=hF 3 _ rfl;have hst:∀(a:Addr) (m:Mode) (W:World),Sem.run Tryz.prog (store a (.func (.func 342) #[] #[.pointer (some ⟨g,0,none⟩)]) m) W=stored Tryz.prog W a (.func (.func 342) #[] #[.pointer (some ⟨g,0,none⟩)]) m:=fun a m W=>wD Tryz.prog W a _ m rfl
   obtain⟨D,hD⟩:∃D:ByteArray,(⟨(lX s.data.toList 1).1.toArray⟩:ByteArray)=D:=⟨_,rfl⟩;obtain⟨ok,hok⟩:∃ok,(lX s.data.toList 1).2=ok:=⟨_,rfl⟩;have CK:Hid (∀W:World,Below wr.heap.size wr W→Calls Tryz.prog 342 #[.string s,.pointer (some ⟨g,0,none⟩)] W fun e w'=>e= .returned (.tuple #[.string D,.bool ok])∧Below W.heap.size W w'):=fun W hW=>by rw[← hD,← hok];exact ES s ⟨#[48,88]⟩ _ W HS.out (MB.out _ _ W zy HM0.out hW)
   have HA:Hid (Below wr.heap.size wr (wr.alloc (.cells #[.int .i64 16,.func (.func 342) #[] #[.pointer (some ⟨g,0,none⟩)]] 333))):=(zh _ _).alloc (zn _) _
   cases ok with
   |false=>
    have HF:=zo (qG hok);clear hF hD hok
    go_wp2_with (go_at_call 342;refine (CK.out _ HA.out).mono ?_;rintro e w2 ⟨rfl,hb⟩;have B2:=zo (bI hB.out hb IP.out);clear hb)
    go_roundw
    case rel=>exact⟨2,zy,by first|rfl|go_num,tried hT.out HF.out,B2.out⟩
    case measure=>simp[intOf]
   |true=>
    have jE:Hid (∀W:World,Calls Tryz.prog 220 #[.string D,.int .i64 16] W fun e w'=>e= .returned (dgV (gU 16 D.data.toList))∧W=w'):=fun W=>CD.out 16 D W zx zx (DL.out _ D hD)
    cases hr:gU 16 D.data.toList with
    |none=>
     have HF:=zo (gm (k:=1) hok hD hr);rw[hr] at jE;have jE:Hid (∀W:World,Calls Tryz.prog 220 #[.string D,.int .i64 16] W fun e w'=>e= .returned (.tuple #[.int .i64 0,.bool false])∧W=w'):=jE.out
     clear hF hD hok hr
     go_wp2_with (first
      |(go_at_call 342;refine (CK.out _ HA.out).mono ?_;rintro e w2 ⟨rfl,hb⟩;have B2:=zo (bI hB.out hb IP.out);have e0:w2.cell? ⟨wr.heap.size,0,none⟩=some (.int .i64 16):=(hb.cell (p:=⟨wr.heap.size,0,none⟩) zw).trans (by unfold World.cell?;simp only[heap_alloc_new];rfl);clear hb)
      |(go_at_call 220;refine (jE.out _).mono ?_;rintro e w3 ⟨rfl,rfl⟩))
     go_roundw
     case rel=>exact⟨2,zy,by first|rfl|go_num,tried hT.out HF.out,B2.out⟩
     case measure=>simp[intOf]
    |some n=>
     have HP:=zo (jc zx hT.out (gm (k:=1) hok hD hr));rw[hr] at jE;have jE:Hid (∀W:World,Calls Tryz.prog 220 #[.string D,.int .i64 16] W fun e w'=>e= .returned (.tuple #[.int .i64 (n:Int),.bool true])∧W=w'):=jE.out
     clear hF hD hok hr
     go_wp2_with (first
      |(go_at_call 342;refine (CK.out _ HA.out).mono ?_;rintro e w2 ⟨rfl,hb⟩;have B2:=zo (bI hB.out hb IP.out);have e0:w2.cell? ⟨wr.heap.size,0,none⟩=some (.int .i64 16):=(hb.cell (p:=⟨wr.heap.size,0,none⟩) zw).trans (by unfold World.cell?;simp only[heap_alloc_new];rfl);clear hb)
      |(go_at_call 220;refine (jE.out _).mono ?_;rintro e w3 ⟨rfl,rfl⟩))
     go_ret2;exact⟨by rw[HP.out];rfl,by rw[HG.out];exact B0.trans (B2.mono zy)⟩
  ·have c0:wr.cell? ⟨g+4,4,none⟩=some (.int .i64 16):=hF 4 _ rfl;have c1:wr.cell? ⟨g+4,5,none⟩=some (.func (.func 342) #[] #[.pointer (some ⟨g+1,0,none⟩)]):=hF 5 _ rfl;have hst:∀(a:Addr) (m:Mode) (W:World),Sem.run Tryz.prog (store a (.func (.func 342) #[] #[.pointer (some ⟨g+1,0,none⟩)]) m) W=stored Tryz.prog W a (.func (.func 342) #[] #[.pointer (some ⟨g+1,0,none⟩)]) m:=fun a m W=>wD Tryz.prog W a _ m rfl
   obtain⟨D,hD⟩:∃D:ByteArray,(⟨(lX s.data.toList 2).1.toArray⟩:ByteArray)=D:=⟨_,rfl⟩;obtain⟨ok,hok⟩:∃ok,(lX s.data.toList 2).2=ok:=⟨_,rfl⟩;have CK:Hid (∀W:World,Below wr.heap.size wr W→Calls Tryz.prog 342 #[.string s,.pointer (some ⟨g+1,0,none⟩)] W fun e w'=>e= .returned (.tuple #[.string D,.bool ok])∧Below W.heap.size W w'):=fun W hW=>by rw[← hD,← hok];exact ES s ⟨#[36]⟩ _ W HS.out (MB.out _ _ W zy HM1.out hW)
   have HA:Hid (Below wr.heap.size wr (wr.alloc (.cells #[.int .i64 16,.func (.func 342) #[] #[.pointer (some ⟨g+1,0,none⟩)]] 333))):=(zh _ _).alloc (zn _) _
   cases ok with
   |false=>
    have HF:=zo (qG hok);clear hF hD hok
    go_wp2_with (go_at_call 342;refine (CK.out _ HA.out).mono ?_;rintro e w2 ⟨rfl,hb⟩;have B2:=zo (bI hB.out hb IP.out);clear hb)
    go_roundw
    case rel=>exact⟨3,zy,by first|rfl|go_num,tried hT.out HF.out,B2.out⟩
    case measure=>simp[intOf]
   |true=>
    have jE:Hid (∀W:World,Calls Tryz.prog 220 #[.string D,.int .i64 16] W fun e w'=>e= .returned (dgV (gU 16 D.data.toList))∧W=w'):=fun W=>CD.out 16 D W zx zx (DL.out _ D hD)
    cases hr:gU 16 D.data.toList with
    |none=>
     have HF:=zo (gm (k:=2) hok hD hr);rw[hr] at jE;have jE:Hid (∀W:World,Calls Tryz.prog 220 #[.string D,.int .i64 16] W fun e w'=>e= .returned (.tuple #[.int .i64 0,.bool false])∧W=w'):=jE.out
     clear hF hD hok hr
     go_wp2_with (first
      |(go_at_call 342;refine (CK.out _ HA.out).mono ?_;rintro e w2 ⟨rfl,hb⟩;have B2:=zo (bI hB.out hb IP.out);have e0:w2.cell? ⟨wr.heap.size,0,none⟩=some (.int .i64 16):=(hb.cell (p:=⟨wr.heap.size,0,none⟩) zw).trans (by unfold World.cell?;simp only[heap_alloc_new];rfl);clear hb)
      |(go_at_call 220;refine (jE.out _).mono ?_;rintro e w3 ⟨rfl,rfl⟩))
     go_roundw
     case rel=>exact⟨3,zy,by first|rfl|go_num,tried hT.out HF.out,B2.out⟩
     case measure=>simp[intOf]
    |some n=>
     have HP:=zo (jc zx hT.out (gm (k:=2) hok hD hr));rw[hr] at jE;have jE:Hid (∀W:World,Calls Tryz.prog 220 #[.string D,.int .i64 16] W fun e w'=>e= .returned (.tuple #[.int .i64 (n:Int),.bool true])∧W=w'):=jE.out
     clear hF hD hok hr
     go_wp2_with (first
      |(go_at_call 342;refine (CK.out _ HA.out).mono ?_;rintro e w2 ⟨rfl,hb⟩;have B2:=zo (bI hB.out hb IP.out);have e0:w2.cell? ⟨wr.heap.size,0,none⟩=some (.int .i64 16):=(hb.cell (p:=⟨wr.heap.size,0,none⟩) zw).trans (by unfold World.cell?;simp only[heap_alloc_new];rfl);clear hb)
      |(go_at_call 220;refine (jE.out _).mono ?_;rintro e w3 ⟨rfl,rfl⟩))
     go_ret2;exact⟨by rw[HP.out];rfl,by rw[HG.out];exact B0.trans (B2.mono zy)⟩
  ·have c0:wr.cell? ⟨g+4,6,none⟩=some (.int .i64 16):=hF 6 _ rfl;have c1:wr.cell? ⟨g+4,7,none⟩=some (.func (.func 283) #[] #[]):=hF 7 _ rfl;have hst:∀(a:Addr) (m:Mode) (W:World),Sem.run Tryz.prog (store a (.func (.func 283) #[] #[]) m) W=stored Tryz.prog W a (.func (.func 283) #[] #[]) m:=fun a m W=>wD Tryz.prog W a _ m rfl
   obtain⟨D,hD⟩:∃D:ByteArray,(⟨(lX s.data.toList 3).1.toArray⟩:ByteArray)=D:=⟨_,rfl⟩;obtain⟨ok,hok⟩:∃ok,(lX s.data.toList 3).2=ok:=⟨_,rfl⟩;have CK:Hid (∀W:World,Below wr.heap.size wr W→Calls Tryz.prog 283 #[.string s] W fun e w'=>e= .returned (.tuple #[.string D,.bool ok])∧Below W.heap.size W w'):=fun W _=>by rw[← hD,← hok];exact aaX s W HS.out
   have HA:Hid (Below wr.heap.size wr (wr.alloc (.cells #[.int .i64 16,.func (.func 283) #[] #[]] 333))):=(zh _ _).alloc (zn _) _
   cases ok with
   |false=>
    have HF:=zo (qG hok);clear hF hD hok
    go_wp2_with (go_at_call 283;refine (CK.out _ HA.out).mono ?_;rintro e w2 ⟨rfl,hb⟩;have B2:=zo (bI hB.out hb IP.out);clear hb)
    go_roundw
    case rel=>exact⟨4,zy,by first|rfl|go_num,tried hT.out HF.out,B2.out⟩
    case measure=>simp[intOf]
   |true=>
    have jE:Hid (∀W:World,Calls Tryz.prog 220 #[.string D,.int .i64 16] W fun e w'=>e= .returned (dgV (gU 16 D.data.toList))∧W=w'):=fun W=>CD.out 16 D W zx zx (DL.out _ D hD)
    cases hr:gU 16 D.data.toList with
    |none=>
     have HF:=zo (gm (k:=3) hok hD hr);rw[hr] at jE;have jE:Hid (∀W:World,Calls Tryz.prog 220 #[.string D,.int .i64 16] W fun e w'=>e= .returned (.tuple #[.int .i64 0,.bool false])∧W=w'):=jE.out
     clear hF hD hok hr
     go_wp2_with (first
      |(go_at_call 283;refine (CK.out _ HA.out).mono ?_;rintro e w2 ⟨rfl,hb⟩;have B2:=zo (bI hB.out hb IP.out);have e0:w2.cell? ⟨wr.heap.size,0,none⟩=some (.int .i64 16):=(hb.cell (p:=⟨wr.heap.size,0,none⟩) zw).trans (by unfold World.cell?;simp only[heap_alloc_new];rfl);clear hb)
      |(go_at_call 220;refine (jE.out _).mono ?_;rintro e w3 ⟨rfl,rfl⟩))
     go_roundw
     case rel=>exact⟨4,zy,by first|rfl|go_num,tried hT.out HF.out,B2.out⟩
     case measure=>simp[intOf]
    |some n=>
     have HP:=zo (jc zx hT.out (gm (k:=3) hok hD hr));rw[hr] at jE;have jE:Hid (∀W:World,Calls Tryz.prog 220 #[.string D,.int .i64 16] W fun e w'=>e= .returned (.tuple #[.int .i64 (n:Int),.bool true])∧W=w'):=jE.out
     clear hF hD hok hr
     go_wp2_with (first
      |(go_at_call 283;refine (CK.out _ HA.out).mono ?_;rintro e w2 ⟨rfl,hb⟩;have B2:=zo (bI hB.out hb IP.out);have e0:w2.cell? ⟨wr.heap.size,0,none⟩=some (.int .i64 16):=(hb.cell (p:=⟨wr.heap.size,0,none⟩) zw).trans (by unfold World.cell?;simp only[heap_alloc_new];rfl);clear hb)
      |(go_at_call 220;refine (jE.out _).mono ?_;rintro e w3 ⟨rfl,rfl⟩))
     go_ret2;exact⟨by rw[HP.out];rfl,by rw[HG.out];exact B0.trans (B2.mono zy)⟩
  ·have c0:wr.cell? ⟨g+4,8,none⟩=some (.int .i64 2):=hF 8 _ rfl;have c1:wr.cell? ⟨g+4,9,none⟩=some (.func (.func 343) #[] #[.pointer (some ⟨g+2,0,none⟩)]):=hF 9 _ rfl;have hst:∀(a:Addr) (m:Mode) (W:World),Sem.run Tryz.prog (store a (.func (.func 343) #[] #[.pointer (some ⟨g+2,0,none⟩)]) m) W=stored Tryz.prog W a (.func (.func 343) #[] #[.pointer (some ⟨g+2,0,none⟩)]) m:=fun a m W=>wD Tryz.prog W a _ m rfl
   obtain⟨D,hD⟩:∃D:ByteArray,(⟨(lX s.data.toList 4).1.toArray⟩:ByteArray)=D:=⟨_,rfl⟩;obtain⟨ok,hok⟩:∃ok,(lX s.data.toList 4).2=ok:=⟨_,rfl⟩;have CK:Hid (∀W:World,Below wr.heap.size wr W→Calls Tryz.prog 343 #[.string s,.pointer (some ⟨g+2,0,none⟩)] W fun e w'=>e= .returned (.tuple #[.string D,.bool ok])∧Below W.heap.size W w'):=fun W hW=>by rw[← hD,← hok];exact Oc s ⟨#[66]⟩ _ W HS.out (MB.out _ _ W zy HM2.out hW)
   have HA:Hid (Below wr.heap.size wr (wr.alloc (.cells #[.int .i64 2,.func (.func 343) #[] #[.pointer (some ⟨g+2,0,none⟩)]] 333))):=(zh _ _).alloc (zn _) _
   cases ok with
   |false=>
    have HF:=zo (qG hok);clear hF hD hok
    go_wp2_with (go_at_call 343;refine (CK.out _ HA.out).mono ?_;rintro e w2 ⟨rfl,hb⟩;have B2:=zo (bI hB.out hb IP.out);clear hb)
    go_roundw
    case rel=>exact⟨5,zy,by first|rfl|go_num,tried hT.out HF.out,B2.out⟩
    case measure=>simp[intOf]
   |true=>
    have jE:Hid (∀W:World,Calls Tryz.prog 220 #[.string D,.int .i64 2] W fun e w'=>e= .returned (dgV (gU 2 D.data.toList))∧W=w'):=fun W=>CD.out 2 D W zx zx (DL.out _ D hD)
    cases hr:gU 2 D.data.toList with
    |none=>
     have HF:=zo (gm (k:=4) hok hD hr);rw[hr] at jE;have jE:Hid (∀W:World,Calls Tryz.prog 220 #[.string D,.int .i64 2] W fun e w'=>e= .returned (.tuple #[.int .i64 0,.bool false])∧W=w'):=jE.out
     clear hF hD hok hr
     go_wp2_with (first
      |(go_at_call 343;refine (CK.out _ HA.out).mono ?_;rintro e w2 ⟨rfl,hb⟩;have B2:=zo (bI hB.out hb IP.out);have e0:w2.cell? ⟨wr.heap.size,0,none⟩=some (.int .i64 2):=(hb.cell (p:=⟨wr.heap.size,0,none⟩) zw).trans (by unfold World.cell?;simp only[heap_alloc_new];rfl);clear hb)
      |(go_at_call 220;refine (jE.out _).mono ?_;rintro e w3 ⟨rfl,rfl⟩))
     go_roundw
     case rel=>exact⟨5,zy,by first|rfl|go_num,tried hT.out HF.out,B2.out⟩
     case measure=>simp[intOf]
    |some n=>
     have HP:=zo (jc zx hT.out (gm (k:=4) hok hD hr));rw[hr] at jE;have jE:Hid (∀W:World,Calls Tryz.prog 220 #[.string D,.int .i64 2] W fun e w'=>e= .returned (.tuple #[.int .i64 (n:Int),.bool true])∧W=w'):=jE.out
     clear hF hD hok hr
     go_wp2_with (first
      |(go_at_call 343;refine (CK.out _ HA.out).mono ?_;rintro e w2 ⟨rfl,hb⟩;have B2:=zo (bI hB.out hb IP.out);have e0:w2.cell? ⟨wr.heap.size,0,none⟩=some (.int .i64 2):=(hb.cell (p:=⟨wr.heap.size,0,none⟩) zw).trans (by unfold World.cell?;simp only[heap_alloc_new];rfl);clear hb)
      |(go_at_call 220;refine (jE.out _).mono ?_;rintro e w3 ⟨rfl,rfl⟩))
     go_ret2;exact⟨by rw[HP.out];rfl,by rw[HG.out];exact B0.trans (B2.mono zy)⟩
  ·have c0:wr.cell? ⟨g+4,10,none⟩=some (.int .i64 2):=hF 10 _ rfl;have c1:wr.cell? ⟨g+4,11,none⟩=some (.func (.func 342) #[] #[.pointer (some ⟨g+3,0,none⟩)]):=hF 11 _ rfl;have hst:∀(a:Addr) (m:Mode) (W:World),Sem.run Tryz.prog (store a (.func (.func 342) #[] #[.pointer (some ⟨g+3,0,none⟩)]) m) W=stored Tryz.prog W a (.func (.func 342) #[] #[.pointer (some ⟨g+3,0,none⟩)]) m:=fun a m W=>wD Tryz.prog W a _ m rfl
   obtain⟨D,hD⟩:∃D:ByteArray,(⟨(lX s.data.toList 5).1.toArray⟩:ByteArray)=D:=⟨_,rfl⟩;obtain⟨ok,hok⟩:∃ok,(lX s.data.toList 5).2=ok:=⟨_,rfl⟩;have CK:Hid (∀W:World,Below wr.heap.size wr W→Calls Tryz.prog 342 #[.string s,.pointer (some ⟨g+3,0,none⟩)] W fun e w'=>e= .returned (.tuple #[.string D,.bool ok])∧Below W.heap.size W w'):=fun W hW=>by rw[← hD,← hok];exact ES s ⟨#[37]⟩ _ W HS.out (MB.out _ _ W zy HM3.out hW)
   have HA:Hid (Below wr.heap.size wr (wr.alloc (.cells #[.int .i64 2,.func (.func 342) #[] #[.pointer (some ⟨g+3,0,none⟩)]] 333))):=(zh _ _).alloc (zn _) _
   cases ok with
   |false=>
    have HF:=zo (qG hok);clear hF hD hok
    go_wp2_with (go_at_call 342;refine (CK.out _ HA.out).mono ?_;rintro e w2 ⟨rfl,hb⟩;have B2:=zo (bI hB.out hb IP.out);clear hb)
    go_roundw
    case rel=>exact⟨6,zy,by first|rfl|go_num,tried hT.out HF.out,B2.out⟩
    case measure=>simp[intOf]
   |true=>
    have jE:Hid (∀W:World,Calls Tryz.prog 220 #[.string D,.int .i64 2] W fun e w'=>e= .returned (dgV (gU 2 D.data.toList))∧W=w'):=fun W=>CD.out 2 D W zx zx (DL.out _ D hD)
    cases hr:gU 2 D.data.toList with
    |none=>
     have HF:=zo (gm (k:=5) hok hD hr);rw[hr] at jE;have jE:Hid (∀W:World,Calls Tryz.prog 220 #[.string D,.int .i64 2] W fun e w'=>e= .returned (.tuple #[.int .i64 0,.bool false])∧W=w'):=jE.out
     clear hF hD hok hr
     go_wp2_with (first
      |(go_at_call 342;refine (CK.out _ HA.out).mono ?_;rintro e w2 ⟨rfl,hb⟩;have B2:=zo (bI hB.out hb IP.out);have e0:w2.cell? ⟨wr.heap.size,0,none⟩=some (.int .i64 2):=(hb.cell (p:=⟨wr.heap.size,0,none⟩) zw).trans (by unfold World.cell?;simp only[heap_alloc_new];rfl);clear hb)
      |(go_at_call 220;refine (jE.out _).mono ?_;rintro e w3 ⟨rfl,rfl⟩))
     go_roundw
     case rel=>exact⟨6,zy,by first|rfl|go_num,tried hT.out HF.out,B2.out⟩
     case measure=>simp[intOf]
    |some n=>
     have HP:=zo (jc zx hT.out (gm (k:=5) hok hD hr));rw[hr] at jE;have jE:Hid (∀W:World,Calls Tryz.prog 220 #[.string D,.int .i64 2] W fun e w'=>e= .returned (.tuple #[.int .i64 (n:Int),.bool true])∧W=w'):=jE.out
     clear hF hD hok hr
     go_wp2_with (first
      |(go_at_call 342;refine (CK.out _ HA.out).mono ?_;rintro e w2 ⟨rfl,hb⟩;have B2:=zo (bI hB.out hb IP.out);have e0:w2.cell? ⟨wr.heap.size,0,none⟩=some (.int .i64 2):=(hb.cell (p:=⟨wr.heap.size,0,none⟩) zw).trans (by unfold World.cell?;simp only[heap_alloc_new];rfl);clear hb)
      |(go_at_call 220;refine (jE.out _).mono ?_;rintro e w3 ⟨rfl,rfl⟩))
     go_ret2;exact⟨by rw[HP.out];rfl,by rw[HG.out];exact B0.trans (B2.mono zy)⟩
  ·have HP:=zo (UL hT.out);clear hF;go_wp2;go_ret2;exact⟨by rw[HP.out];rfl,by rw[HG.out];exact B0.trans (hB.mono zy)⟩
def CG (w:World)(b k:Nat)(s:ByteArray)(t:Tk)(e:Ending)(w':World):Prop:=
 w.grownBy w' (some b)∧
   ((jg (s.data.toList.drop k)=false∧e= .returned (.tuple #[.bool false,.int .i64 0])∧LX w' b s k t)∨
    (jg (s.data.toList.drop k)=true∧∃m,m=1+aY ((s.data.toList.drop k).drop 1)∧
      ((oq ((s.data.toList.drop k).take m)=none∧e= .returned (.tuple #[.bool true,.int .i64 3])∧∃k' t',LX w' b s k' t')∨
       ∃v,oq ((s.data.toList.drop k).take m)=some v∧e= .returned (.tuple #[.bool true,.int .i64 0])∧LX w' b s (k+m) ⟨2,[],v,0⟩)))
theorem Ao {l:List UInt8}{k:Nat}{c:UInt8}(h:l[k]? =some c):jg (l.drop k)=(kS c || c == 37 || (c == 36 && decide (0 < aY (l.drop (k+1))))):=by
 have hj:=M4 h;rw[zK hj,(xw hj).2 h];rfl
theorem Yn {l:List UInt8}{k:Nat}(h:l6 l k≠0):l[k]? =some (l6 l k):=by
 unfold l6 at h ⊢
 cases hl:l[k]? with
 |none=>rw[hl] at h;exact absurd rfl h
 |some c=>rfl
theorem Qm {l:List UInt8}{k:Nat}(h:kS (l6 l k)=false)(h1:l6 l k≠36)(h2:l6 l k≠37):jg (l.drop k)=false:=by
 by_cases h0:l6 l k=0
 ·unfold l6 at h0
  cases hl:l[k]? with
  |none=>rw[yL (yI.1 hl)];rfl
  |some c=>
   rw[hl] at h0;have:c=0:=h0;rw[Ao hl,this];rfl
 ·rw[Ao (Yn h0),h];simp[h1,h2]
theorem aiL {l:List UInt8}{k:Nat}{c:UInt8}(h:l6 l k=c)(hc:kS c=true∨c=36∨c=37):l[k]? =some c:=by
 have h0:l6 l k≠0:=by
  intro h0;rw[← h,h0] at hc;revert hc;decide
 rw[← h];exact Yn h0
theorem aif (b k:Nat)(s:ByteArray)(t:Tk)(w:World)(hs:(s.size:Int)≤140737488355328)(hk:k≤s.size)(h:LX w b s k t)(c:UInt8)(hc:l6 s.data.toList k=c)(hd:kS c=false)(h36:c≠36)(h37:c≠37):
 Calls Tryz.prog 85 #[.pointer (some ⟨b,0,none⟩)] w (CG w b k s t):=by
 have HN:Hid (jg (s.data.toList.drop k)=false):=Qm (by rw[hc];exact hd) (by rw[hc];exact h36) (by rw[hc];exact h37)
 have CP:Hid (∀W:World,W.heap=w.heap→Calls Tryz.prog 83 #[.pointer (some ⟨b,0,none⟩)] W fun e w'=>e= .returned (.int .u8 (c.toNat:Int))∧∃m,w'=W.drewN m):=fun W hW=>by
  subst hc;exact jv b 0 k s W hs hk (h.heap hW).line.1 (h.heap hW).line.2
 have CD:Hid (∀W:World,Calls Tryz.prog 153 #[.int .u8 (c.toNat:Int)] W fun e w'=>e= .returned (.bool false)∧W=w'):=fun W=>by
  have:=Ba c W;rw[hd] at this;exact this
 have d1:((c.toNat:Int) != 36)=true:=by rw[bne,jS h36 (z:=36) zx];rfl
 have d2:((c.toNat:Int) != 37)=true:=by rw[bne,jS h37 (z:=37) zx];rfl
 obtain⟨c0,c1⟩:=h.line;have H:=zo h;clear h hc hd h36 h37;go_enter Tryz.func85,Tryz.ntmps85;go_wp2;go_quiet ((go_at_call 83;exact Calls.quiet_of (CP.out _ rfl)))
 go_wp2_with (go_at_call 153;refine (CD.out _).mono ?_;rintro e w2 ⟨rfl,rfl⟩)
 go_ret2;exact⟨ak (aW w b) _,.inl ⟨HN.out,rfl,H.out⟩⟩
theorem adS (b k:Nat)(s:ByteArray)(t:Tk)(w:World)(hs:(s.size:Int)≤140737488355328)(h:LX w b s k t)(c:UInt8)(hc:l6 s.data.toList k=c)(hd:kS c=true∨c=36∨c=37):
 Calls Tryz.prog 85 #[.pointer (some ⟨b,0,none⟩)] w (CG w b k s t):=by
 have hin:=aiL hc hd;have hlt:=M4 hin;obtain⟨l,hl⟩:∃l,s.data.toList=l:=⟨_,rfl⟩;have hLs:l.length=s.size:=by rw[← hl];exact bF s
 rw[hl] at hlt hin;have hki:(k:Int) < (s.size:Int):=zy
 have CP:Hid (∀W:World,W.heap=w.heap→Calls Tryz.prog 83 #[.pointer (some ⟨b,0,none⟩)] W fun e w'=>e= .returned (.int .u8 (c.toNat:Int))∧∃m,w'=W.drewN m):=fun W hW=>by
  subst hc;exact jv b 0 k s W hs zy (h.heap hW).line.1 (h.heap hW).line.2
 have CD:Hid (∀W:World,Calls Tryz.prog 153 #[.int .u8 (c.toNat:Int)] W fun e w'=>e= .returned (.bool (kS c))∧W=w'):=fun W=>Ba c W
 obtain⟨r,hr⟩:∃r,aY (l.drop (k+1))=r:=⟨_,rfl⟩;have Nz:=mf (l.drop (k+1));rw[zH,hr] at Nz;obtain⟨S,hS⟩:∃S,s.extract (k+1) (k+1+r)=S:=⟨_,rfl⟩;have hSs:S.size=r:=by rw[← bF,← hS,uE,hl,zJ,zH];omega
 have hSe:S.toList.isEmpty=decide (r=0):=by
  rw[ql];apply decide_eq_decide.2;rw[← wh,bF,hSs]
 obtain⟨K,hK⟩:∃K,k+1+r=K:=⟨_,rfl⟩
 have CR:Hid (∀W:World,LX W b s (k+1) t→Calls Tryz.prog 152 #[.pointer (some ⟨b,0,none⟩)] W fun e w'=>e= .returned (.string S)∧LX w' b s K t∧W.grownBy w' (some b)):=fun W hW=>by
  have:=RS b (k+1) s t W hs zy hW;rw[hl,hr,hS,hK] at this;exact this
 obtain⟨V,hV⟩:∃V,s.extract k K=V:=⟨_,rfl⟩;have hVl:V.data.toList=(l.drop k).take (1+r):=by rw[← hV,uE,hl];congr 1;omega
 have hVs:(V.size:Int)≤140737488355328:=by rw[← bF,hVl,zJ,zH];omega
 have CN:Hid (∀W:World,Calls Tryz.prog 154 #[.string V] W fun e w'=>e= .returned (dgV (oq ((l.drop k).take (1+r))))∧Below W.heap.size W w'):=fun W=>by
  have:=UQ V W hVs;rw[hVl] at this;exact this
 obtain⟨c0,c1⟩:=h.line;have f1:=h.frozen 1;have H:=zo h;have kP:=zo hl;have HX:Hid (∀n,LX ((w.drewN n).setCell ⟨b,1,none⟩ (.int .i64 ((k:Int)+1))) b s (k+1) t):=fun n=>LX.to (h.heap (w':=w.drewN n) rfl) (k+1) rfl
 have HR:Hid (aY ((l.drop k).drop 1)=r):=by show _=_;rw[xI];exact hr
 have Em:=Ao hin;rw[hr] at Em;have hkr:(K:Int)≤(s.size:Int):=zy;have hkk:(k:Int)≤(K:Int):=zy;have HK:Hid (k+(1+r)=K):=by show _=_;omega
 have hcase:(kS c=true∧((c.toNat:Int) == 36)=false)∨(kS c=false∧c=37)∨(kS c=false∧c=36∧r≠0)∨(kS c=false∧c=36∧r=0):=by
  rcases Bool.eq_false_or_eq_true (kS c) with h|h
  ·exact .inl ⟨h,jS (d:=36) (fun e=>by rw[e] at h;revert h;decide) zx⟩
  ·rcases hd with h'|h'|h'
   ·rw[h] at h';cases h'
   ·by_cases h0:r=0
    ·exact .inr (.inr (.inr ⟨h,h',h0⟩))
    ·exact .inr (.inr (.inl ⟨h,h',h0⟩))
   ·exact .inr (.inl ⟨h,h'⟩)
 clear h hc hd hl hlt hin hr hS hVl hLs Nz hK hSs;rcases hcase with⟨h1,h2⟩|⟨h1,h2⟩|⟨h1,h2,h3⟩|⟨h1,h2,h3⟩
 ·have HN:Hid (jg (l.drop k)=true):=by show _=_;rw[Em,h1];rfl
  rw[h1] at CD;clear h1;by_cases h0:r=0
  ·rw[zC h0] at hSe;clear h0;clear Em
   cases hp:oq ((l.drop k).take (1+r)) with
   |none=>
    have HP:=zo hp;rw[hp] at CN;clear hp;have FJ:Hid (∀W:World,Calls Tryz.prog 154 #[.string V] W fun e w'=>e= .returned (.tuple #[.int .i64 0,.bool false])∧Below W.heap.size W w'):=CN
    clear CN;go_enter Tryz.func85,Tryz.ntmps85;go_wp2;go_quiet ((go_at_call 83;exact Calls.quiet_of (CP.out _ rfl)))
    go_wp2_with (first
     |(go_at_call 153;refine (CD.out _).mono ?_;rintro e w2 ⟨rfl,rfl⟩)
     |(go_at_call 152;refine (CR.out _ (HX.out _)).mono ?_;rintro e w3 ⟨rfl,hx,hg⟩;obtain⟨y0,y1⟩:=hx.line;have X3:=zo hx;have G3:=zo (grownBy_trans (aV (ak (aW w b) _) 1 _) hg);clear hx hg c0 c1))
    go_region_held3 (fun w'=>w'.cell? ⟨b,0,none⟩=some (.string s)∧w'.cell? ⟨b,1,none⟩=some (.int .i64 (K:Int))) (go_keep)
     (first
       |(go_at_call 154;refine (FJ.out _).mono ?_;rintro e w9 ⟨rfl,hb⟩;have fU:=(X3.heap (by rfl)).after hb;obtain⟨z0,z1,z2,z3,z4,z5⟩:=fU.cell;have g2:=fU.frozen 2;have g3:=fU.frozen 3;have g4:=fU.frozen 4;have g5:=fU.frozen 5;have X9:=zo fU;have G9:=zo (grownBy_trans (ak G3.out 1) (grownBy_below hb (some b)));clear hb fU))
    all_goals
     go_wp2;go_ret2;exact⟨G9.out,.inr ⟨by rw[kP.out];exact HN.out,1+r,by rw[kP.out,HR.out],.inl ⟨by rw[kP.out];exact HP.out,rfl,_,_,X9.out⟩⟩⟩
   |some v=>
    have HP:=zo hp;rw[hp] at CN;clear hp;have FJ:Hid (∀W:World,Calls Tryz.prog 154 #[.string V] W fun e w'=>e= .returned (.tuple #[.int .i64 (v:Int),.bool true])∧Below W.heap.size W w'):=CN
    clear CN;go_enter Tryz.func85,Tryz.ntmps85;go_wp2;go_quiet ((go_at_call 83;exact Calls.quiet_of (CP.out _ rfl)))
    go_wp2_with (first
     |(go_at_call 153;refine (CD.out _).mono ?_;rintro e w2 ⟨rfl,rfl⟩)
     |(go_at_call 152;refine (CR.out _ (HX.out _)).mono ?_;rintro e w3 ⟨rfl,hx,hg⟩;obtain⟨y0,y1⟩:=hx.line;have X3:=zo hx;have G3:=zo (grownBy_trans (aV (ak (aW w b) _) 1 _) hg);clear hx hg c0 c1))
    go_region_held3 (fun w'=>w'.cell? ⟨b,0,none⟩=some (.string s)∧w'.cell? ⟨b,1,none⟩=some (.int .i64 (K:Int))) (go_keep)
     (first
       |(go_at_call 154;refine (FJ.out _).mono ?_;rintro e w9 ⟨rfl,hb⟩;have fU:=(X3.heap (by rfl)).after hb;obtain⟨z0,z1,z2,z3,z4,z5⟩:=fU.cell;have g2:=fU.frozen 2;have g3:=fU.frozen 3;have g4:=fU.frozen 4;have g5:=fU.frozen 5;have X9:=zo fU;have G9:=zo (grownBy_trans (ak G3.out 1) (grownBy_below hb (some b)));clear hb fU))
    all_goals
     go_wp2;go_ret2;exact⟨fC G9.out _ _ _ _,.inr ⟨by rw[kP.out];exact HN.out,1+r,by rw[kP.out,HR.out],.inr ⟨v,by rw[kP.out];exact HP.out,rfl,by rw[HK.out];exact X9.tok ⟨2,_,v,0⟩ rfl rfl rfl rfl⟩⟩⟩
  ·rw[zN h0] at hSe;clear h0;clear Em
   cases hp:oq ((l.drop k).take (1+r)) with
   |none=>
    have HP:=zo hp;rw[hp] at CN;clear hp;have FJ:Hid (∀W:World,Calls Tryz.prog 154 #[.string V] W fun e w'=>e= .returned (.tuple #[.int .i64 0,.bool false])∧Below W.heap.size W w'):=CN
    clear CN;go_enter Tryz.func85,Tryz.ntmps85;go_wp2;go_quiet ((go_at_call 83;exact Calls.quiet_of (CP.out _ rfl)))
    go_wp2_with (first
     |(go_at_call 153;refine (CD.out _).mono ?_;rintro e w2 ⟨rfl,rfl⟩)
     |(go_at_call 152;refine (CR.out _ (HX.out _)).mono ?_;rintro e w3 ⟨rfl,hx,hg⟩;obtain⟨y0,y1⟩:=hx.line;have X3:=zo hx;have G3:=zo (grownBy_trans (aV (ak (aW w b) _) 1 _) hg);clear hx hg c0 c1))
    go_region_held3 (fun w'=>w'.cell? ⟨b,0,none⟩=some (.string s)∧w'.cell? ⟨b,1,none⟩=some (.int .i64 (K:Int))) (go_keep)
     (first
       |(go_at_call 154;refine (FJ.out _).mono ?_;rintro e w9 ⟨rfl,hb⟩;have fU:=(X3.heap (by rfl)).after hb;obtain⟨z0,z1,z2,z3,z4,z5⟩:=fU.cell;have g2:=fU.frozen 2;have g3:=fU.frozen 3;have g4:=fU.frozen 4;have g5:=fU.frozen 5;have X9:=zo fU;have G9:=zo (grownBy_trans (ak G3.out 1) (grownBy_below hb (some b)));clear hb fU))
    all_goals
     go_wp2;go_ret2;exact⟨G9.out,.inr ⟨by rw[kP.out];exact HN.out,1+r,by rw[kP.out,HR.out],.inl ⟨by rw[kP.out];exact HP.out,rfl,_,_,X9.out⟩⟩⟩
   |some v=>
    have HP:=zo hp;rw[hp] at CN;clear hp;have FJ:Hid (∀W:World,Calls Tryz.prog 154 #[.string V] W fun e w'=>e= .returned (.tuple #[.int .i64 (v:Int),.bool true])∧Below W.heap.size W w'):=CN
    clear CN;go_enter Tryz.func85,Tryz.ntmps85;go_wp2;go_quiet ((go_at_call 83;exact Calls.quiet_of (CP.out _ rfl)))
    go_wp2_with (first
     |(go_at_call 153;refine (CD.out _).mono ?_;rintro e w2 ⟨rfl,rfl⟩)
     |(go_at_call 152;refine (CR.out _ (HX.out _)).mono ?_;rintro e w3 ⟨rfl,hx,hg⟩;obtain⟨y0,y1⟩:=hx.line;have X3:=zo hx;have G3:=zo (grownBy_trans (aV (ak (aW w b) _) 1 _) hg);clear hx hg c0 c1))
    go_region_held3 (fun w'=>w'.cell? ⟨b,0,none⟩=some (.string s)∧w'.cell? ⟨b,1,none⟩=some (.int .i64 (K:Int))) (go_keep)
     (first
       |(go_at_call 154;refine (FJ.out _).mono ?_;rintro e w9 ⟨rfl,hb⟩;have fU:=(X3.heap (by rfl)).after hb;obtain⟨z0,z1,z2,z3,z4,z5⟩:=fU.cell;have g2:=fU.frozen 2;have g3:=fU.frozen 3;have g4:=fU.frozen 4;have g5:=fU.frozen 5;have X9:=zo fU;have G9:=zo (grownBy_trans (ak G3.out 1) (grownBy_below hb (some b)));clear hb fU))
    all_goals
     go_wp2;go_ret2;exact⟨fC G9.out _ _ _ _,.inr ⟨by rw[kP.out];exact HN.out,1+r,by rw[kP.out,HR.out],.inr ⟨v,by rw[kP.out];exact HP.out,rfl,by rw[HK.out];exact X9.tok ⟨2,_,v,0⟩ rfl rfl rfl rfl⟩⟩⟩
 ·have HN:Hid (jg (l.drop k)=true):=by show _=_;rw[Em,h1,h2];rfl
  have d1:((c.toNat:Int) != 36)=true:=by rw[h2];rfl
  have d2:((c.toNat:Int) != 37)=false:=by rw[h2];rfl
  have d3:((c.toNat:Int) == 36)=false:=by rw[h2];rfl
  rw[h1] at CD;clear h1 h2;by_cases h0:r=0
  ·rw[zC h0] at hSe;clear h0;clear Em
   cases hp:oq ((l.drop k).take (1+r)) with
   |none=>
    have HP:=zo hp;rw[hp] at CN;clear hp;have FJ:Hid (∀W:World,Calls Tryz.prog 154 #[.string V] W fun e w'=>e= .returned (.tuple #[.int .i64 0,.bool false])∧Below W.heap.size W w'):=CN
    clear CN;go_enter Tryz.func85,Tryz.ntmps85;go_wp2;go_quiet ((go_at_call 83;exact Calls.quiet_of (CP.out _ rfl)))
    go_wp2_with (first
     |(go_at_call 153;refine (CD.out _).mono ?_;rintro e w2 ⟨rfl,rfl⟩)
     |(go_at_call 152;refine (CR.out _ (HX.out _)).mono ?_;rintro e w3 ⟨rfl,hx,hg⟩;obtain⟨y0,y1⟩:=hx.line;have X3:=zo hx;have G3:=zo (grownBy_trans (aV (ak (aW w b) _) 1 _) hg);clear hx hg c0 c1))
    go_region_held3 (fun w'=>w'.cell? ⟨b,0,none⟩=some (.string s)∧w'.cell? ⟨b,1,none⟩=some (.int .i64 (K:Int))) (go_keep)
     (first
       |(go_at_call 154;refine (FJ.out _).mono ?_;rintro e w9 ⟨rfl,hb⟩;have fU:=(X3.heap (by rfl)).after hb;obtain⟨z0,z1,z2,z3,z4,z5⟩:=fU.cell;have g2:=fU.frozen 2;have g3:=fU.frozen 3;have g4:=fU.frozen 4;have g5:=fU.frozen 5;have X9:=zo fU;have G9:=zo (grownBy_trans (ak G3.out 1) (grownBy_below hb (some b)));clear hb fU))
    all_goals
     go_wp2;go_ret2;exact⟨G9.out,.inr ⟨by rw[kP.out];exact HN.out,1+r,by rw[kP.out,HR.out],.inl ⟨by rw[kP.out];exact HP.out,rfl,_,_,X9.out⟩⟩⟩
   |some v=>
    have HP:=zo hp;rw[hp] at CN;clear hp;have FJ:Hid (∀W:World,Calls Tryz.prog 154 #[.string V] W fun e w'=>e= .returned (.tuple #[.int .i64 (v:Int),.bool true])∧Below W.heap.size W w'):=CN
    clear CN;go_enter Tryz.func85,Tryz.ntmps85;go_wp2;go_quiet ((go_at_call 83;exact Calls.quiet_of (CP.out _ rfl)))
    go_wp2_with (first
     |(go_at_call 153;refine (CD.out _).mono ?_;rintro e w2 ⟨rfl,rfl⟩)
     |(go_at_call 152;refine (CR.out _ (HX.out _)).mono ?_;rintro e w3 ⟨rfl,hx,hg⟩;obtain⟨y0,y1⟩:=hx.line;have X3:=zo hx;have G3:=zo (grownBy_trans (aV (ak (aW w b) _) 1 _) hg);clear hx hg c0 c1))
    go_region_held3 (fun w'=>w'.cell? ⟨b,0,none⟩=some (.string s)∧w'.cell? ⟨b,1,none⟩=some (.int .i64 (K:Int))) (go_keep)
     (first
       |(go_at_call 154;refine (FJ.out _).mono ?_;rintro e w9 ⟨rfl,hb⟩;have fU:=(X3.heap (by rfl)).after hb;obtain⟨z0,z1,z2,z3,z4,z5⟩:=fU.cell;have g2:=fU.frozen 2;have g3:=fU.frozen 3;have g4:=fU.frozen 4;have g5:=fU.frozen 5;have X9:=zo fU;have G9:=zo (grownBy_trans (ak G3.out 1) (grownBy_below hb (some b)));clear hb fU))
    all_goals
     go_wp2;go_ret2;exact⟨fC G9.out _ _ _ _,.inr ⟨by rw[kP.out];exact HN.out,1+r,by rw[kP.out,HR.out],.inr ⟨v,by rw[kP.out];exact HP.out,rfl,by rw[HK.out];exact X9.tok ⟨2,_,v,0⟩ rfl rfl rfl rfl⟩⟩⟩
  ·rw[zN h0] at hSe;clear h0;clear Em
   cases hp:oq ((l.drop k).take (1+r)) with
   |none=>
    have HP:=zo hp;rw[hp] at CN;clear hp;have FJ:Hid (∀W:World,Calls Tryz.prog 154 #[.string V] W fun e w'=>e= .returned (.tuple #[.int .i64 0,.bool false])∧Below W.heap.size W w'):=CN
    clear CN;go_enter Tryz.func85,Tryz.ntmps85;go_wp2;go_quiet ((go_at_call 83;exact Calls.quiet_of (CP.out _ rfl)))
    go_wp2_with (first
     |(go_at_call 153;refine (CD.out _).mono ?_;rintro e w2 ⟨rfl,rfl⟩)
     |(go_at_call 152;refine (CR.out _ (HX.out _)).mono ?_;rintro e w3 ⟨rfl,hx,hg⟩;obtain⟨y0,y1⟩:=hx.line;have X3:=zo hx;have G3:=zo (grownBy_trans (aV (ak (aW w b) _) 1 _) hg);clear hx hg c0 c1))
    go_region_held3 (fun w'=>w'.cell? ⟨b,0,none⟩=some (.string s)∧w'.cell? ⟨b,1,none⟩=some (.int .i64 (K:Int))) (go_keep)
     (first
       |(go_at_call 154;refine (FJ.out _).mono ?_;rintro e w9 ⟨rfl,hb⟩;have fU:=(X3.heap (by rfl)).after hb;obtain⟨z0,z1,z2,z3,z4,z5⟩:=fU.cell;have g2:=fU.frozen 2;have g3:=fU.frozen 3;have g4:=fU.frozen 4;have g5:=fU.frozen 5;have X9:=zo fU;have G9:=zo (grownBy_trans (ak G3.out 1) (grownBy_below hb (some b)));clear hb fU))
    all_goals
     go_wp2;go_ret2;exact⟨G9.out,.inr ⟨by rw[kP.out];exact HN.out,1+r,by rw[kP.out,HR.out],.inl ⟨by rw[kP.out];exact HP.out,rfl,_,_,X9.out⟩⟩⟩
   |some v=>
    have HP:=zo hp;rw[hp] at CN;clear hp;have FJ:Hid (∀W:World,Calls Tryz.prog 154 #[.string V] W fun e w'=>e= .returned (.tuple #[.int .i64 (v:Int),.bool true])∧Below W.heap.size W w'):=CN
    clear CN;go_enter Tryz.func85,Tryz.ntmps85;go_wp2;go_quiet ((go_at_call 83;exact Calls.quiet_of (CP.out _ rfl)))
    go_wp2_with (first
     |(go_at_call 153;refine (CD.out _).mono ?_;rintro e w2 ⟨rfl,rfl⟩)
     |(go_at_call 152;refine (CR.out _ (HX.out _)).mono ?_;rintro e w3 ⟨rfl,hx,hg⟩;obtain⟨y0,y1⟩:=hx.line;have X3:=zo hx;have G3:=zo (grownBy_trans (aV (ak (aW w b) _) 1 _) hg);clear hx hg c0 c1))
    go_region_held3 (fun w'=>w'.cell? ⟨b,0,none⟩=some (.string s)∧w'.cell? ⟨b,1,none⟩=some (.int .i64 (K:Int))) (go_keep)
     (first
       |(go_at_call 154;refine (FJ.out _).mono ?_;rintro e w9 ⟨rfl,hb⟩;have fU:=(X3.heap (by rfl)).after hb;obtain⟨z0,z1,z2,z3,z4,z5⟩:=fU.cell;have g2:=fU.frozen 2;have g3:=fU.frozen 3;have g4:=fU.frozen 4;have g5:=fU.frozen 5;have X9:=zo fU;have G9:=zo (grownBy_trans (ak G3.out 1) (grownBy_below hb (some b)));clear hb fU))
    all_goals
     go_wp2;go_ret2;exact⟨fC G9.out _ _ _ _,.inr ⟨by rw[kP.out];exact HN.out,1+r,by rw[kP.out,HR.out],.inr ⟨v,by rw[kP.out];exact HP.out,rfl,by rw[HK.out];exact X9.tok ⟨2,_,v,0⟩ rfl rfl rfl rfl⟩⟩⟩
 ·have HN:Hid (jg (l.drop k)=true):=by
   show _=_;rw[Em,h1,h2,zC (show 0 < r by omega)]
   rfl
  have d1:((c.toNat:Int) != 36)=false:=by rw[h2];rfl
  rw[h1] at CD;rw[zN h3] at hSe;clear h1 h2 h3;clear Em
  cases hp:oq ((l.drop k).take (1+r)) with
  |none=>
   have HP:=zo hp;rw[hp] at CN;clear hp;have FJ:Hid (∀W:World,Calls Tryz.prog 154 #[.string V] W fun e w'=>e= .returned (.tuple #[.int .i64 0,.bool false])∧Below W.heap.size W w'):=CN
   clear CN;go_enter Tryz.func85,Tryz.ntmps85;go_wp2;go_quiet ((go_at_call 83;exact Calls.quiet_of (CP.out _ rfl)))
   go_wp2_with (first
    |(go_at_call 153;refine (CD.out _).mono ?_;rintro e w2 ⟨rfl,rfl⟩)
    |(go_at_call 152;refine (CR.out _ (HX.out _)).mono ?_;rintro e w3 ⟨rfl,hx,hg⟩;obtain⟨y0,y1⟩:=hx.line;have X3:=zo hx;have G3:=zo (grownBy_trans (aV (ak (aW w b) _) 1 _) hg);clear hx hg c0 c1))
   go_region_held3 (fun w'=>w'.cell? ⟨b,0,none⟩=some (.string s)∧w'.cell? ⟨b,1,none⟩=some (.int .i64 (K:Int))) (go_keep)
    (first
      |(go_at_call 154;refine (FJ.out _).mono ?_;rintro e w9 ⟨rfl,hb⟩;have fU:=(X3.heap (by rfl)).after hb;obtain⟨z0,z1,z2,z3,z4,z5⟩:=fU.cell;have g2:=fU.frozen 2;have g3:=fU.frozen 3;have g4:=fU.frozen 4;have g5:=fU.frozen 5;have X9:=zo fU;have G9:=zo (grownBy_trans (ak G3.out 1) (grownBy_below hb (some b)));clear hb fU))
   all_goals
    go_wp2;go_ret2;exact⟨G9.out,.inr ⟨by rw[kP.out];exact HN.out,1+r,by rw[kP.out,HR.out],.inl ⟨by rw[kP.out];exact HP.out,rfl,_,_,X9.out⟩⟩⟩
  |some v=>
   have HP:=zo hp;rw[hp] at CN;clear hp;have FJ:Hid (∀W:World,Calls Tryz.prog 154 #[.string V] W fun e w'=>e= .returned (.tuple #[.int .i64 (v:Int),.bool true])∧Below W.heap.size W w'):=CN
   clear CN;go_enter Tryz.func85,Tryz.ntmps85;go_wp2;go_quiet ((go_at_call 83;exact Calls.quiet_of (CP.out _ rfl)))
   go_wp2_with (first
    |(go_at_call 153;refine (CD.out _).mono ?_;rintro e w2 ⟨rfl,rfl⟩)
    |(go_at_call 152;refine (CR.out _ (HX.out _)).mono ?_;rintro e w3 ⟨rfl,hx,hg⟩;obtain⟨y0,y1⟩:=hx.line;have X3:=zo hx;have G3:=zo (grownBy_trans (aV (ak (aW w b) _) 1 _) hg);clear hx hg c0 c1))
   go_region_held3 (fun w'=>w'.cell? ⟨b,0,none⟩=some (.string s)∧w'.cell? ⟨b,1,none⟩=some (.int .i64 (K:Int))) (go_keep)
    (first
      |(go_at_call 154;refine (FJ.out _).mono ?_;rintro e w9 ⟨rfl,hb⟩;have fU:=(X3.heap (by rfl)).after hb;obtain⟨z0,z1,z2,z3,z4,z5⟩:=fU.cell;have g2:=fU.frozen 2;have g3:=fU.frozen 3;have g4:=fU.frozen 4;have g5:=fU.frozen 5;have X9:=zo fU;have G9:=zo (grownBy_trans (ak G3.out 1) (grownBy_below hb (some b)));clear hb fU))
   all_goals
    go_wp2;go_ret2;exact⟨fC G9.out _ _ _ _,.inr ⟨by rw[kP.out];exact HN.out,1+r,by rw[kP.out,HR.out],.inr ⟨v,by rw[kP.out];exact HP.out,rfl,by rw[HK.out];exact X9.tok ⟨2,_,v,0⟩ rfl rfl rfl rfl⟩⟩⟩
 ·have HN:Hid (jg (l.drop k)=false):=by
   show _=_;rw[Em,h1,h2,h3];rfl
  have d1:((c.toNat:Int) != 36)=false:=by rw[h2];rfl
  have d3:((c.toNat:Int) == 36)=true:=by rw[h2];rfl
  rw[h1] at CD;rw[zC h3] at hSe;clear h1 h2 h3 Em CN;go_enter Tryz.func85,Tryz.ntmps85;go_wp2;go_quiet ((go_at_call 83;exact Calls.quiet_of (CP.out _ rfl)))
  go_wp2_with (first
   |(go_at_call 153;refine (CD.out _).mono ?_;rintro e w2 ⟨rfl,rfl⟩)
   |(go_at_call 152;refine (CR.out _ (HX.out _)).mono ?_;rintro e w3 ⟨rfl,hx,hg⟩;obtain⟨y0,y1⟩:=hx.line;have g1:=hx.frozen 1;have X3:=zo hx;have G3:=zo (grownBy_trans (aV (ak (aW w b) _) 1 _) hg);clear hx hg c0 c1))
  go_ret2;exact⟨aV G3.out 1 _,.inl ⟨by rw[kP.out];exact HN.out,rfl,X3.to k rfl⟩⟩
theorem Qa (b k:Nat)(s:ByteArray)(t:Tk)(w:World)(hs:(s.size:Int)≤140737488355328)(hk:k≤s.size)(h:LX w b s k t):
 Calls Tryz.prog 85 #[.pointer (some ⟨b,0,none⟩)] w (CG w b k s t):=by
 by_cases hd:kS (l6 s.data.toList k)=true∨l6 s.data.toList k=36∨l6 s.data.toList k=37
 ·exact adS b k s t w hs h _ rfl hd
 ·exact aif b k s t w hs hk h _ rfl (by simpa using fun h=>hd (.inl h)) (fun h=>hd (.inr (.inl h))) (fun h=>hd (.inr (.inr h)))
theorem ahq:∀n:Fin 256,decide (0≤Lib.indexByte jM (UInt8.ofNat n.val))=decide (UInt8.ofNat n.val∈jM):=by decide+kernel
theorem alP (c:UInt8):decide (0≤Lib.indexByte jM c)=decide (c∈jM):=by
 have:=ahq ⟨c.toNat,c.toNat_lt⟩;rw[show UInt8.ofNat (⟨c.toNat,c.toNat_lt⟩:Fin 256).val=c from by simp] at this
 exact this
theorem alO (c:UInt8)(w:World):Calls Tryz.prog 155 #[.string ⟨#[44,40,41,43,45,42,47,38,124,94,126,58,61,36]⟩,.int .u8 (c.toNat:Int)] w fun e w'=>e= .returned (.int .i64 (Lib.indexByte jM c))∧w=w':=by
 refine (Tryz.strings_IndexByte ⟨#[44,40,41,43,45,42,47,38,124,94,126,58,61,36]⟩ (c.toNat:Int) w).mono fun e w' ⟨he,hw⟩=>⟨?_,hw.symm⟩
 rw[he];have e2:((c.toNat:Int).toNat).toUInt8=c:=zw;rw[e2];rfl
def OI (w:World)(b k:Nat)(s:ByteArray)(e:Ending)(w':World):Prop:=
 w.grownBy w' (some b)∧
   ((dn (s.data.toList.drop k)=0∧e= .returned (.tuple #[.bool true,.int .i64 20])∧∃k' t',LX w' b s k' t')∨
    (0 < dn (s.data.toList.drop k)∧e= .returned (.tuple #[.bool true,.int .i64 0])∧LX w' b s (k+dn (s.data.toList.drop k)) ⟨4,(s.data.toList.drop k).take (dn (s.data.toList.drop k)),0,0⟩))
theorem R5 {l:List UInt8}{a:UInt8}:Lib.hasPrefix l [a,a]=decide (l.take 2=[a,a]):=by
 unfold Lib.hasPrefix
 cases l with
 |nil=>rfl
 |cons c r=>
  cases r with
  |nil=>
   rw[zN zw];simp[List.isPrefixOf]
  |cons d r=>
   rw[show (c::d::r).take 2=[c,d] from rfl]
   by_cases h:c=a<;>by_cases h':d=a
   ·subst h;subst h';simp[List.isPrefixOf]
   ·rw[zN (by simp[h'])]
    have:(a == d)=false:=by simpa using fun e=>h' e.symm
    simp[List.isPrefixOf,this]
   ·rw[zN (by simp[h])]
    have:(a == c)=false:=by simpa using fun e=>h e.symm
    simp[List.isPrefixOf,this]
   ·rw[zN (by simp[h])]
    have:(a == c)=false:=by simpa using fun e=>h e.symm
    simp[List.isPrefixOf,this]
theorem Pz (l:List UInt8)(k:Nat):
 (Lib.hasPrefix (l.drop k) [60,60]=true∧dn (l.drop k)=2)∨
 (Lib.hasPrefix (l.drop k) [60,60]=false∧Lib.hasPrefix (l.drop k) [62,62]=true∧dn (l.drop k)=2)∨
 (Lib.hasPrefix (l.drop k) [60,60]=false∧Lib.hasPrefix (l.drop k) [62,62]=false∧0≤Lib.indexByte jM (l6 l k)∧dn (l.drop k)=1)∨
 (Lib.hasPrefix (l.drop k) [60,60]=false∧Lib.hasPrefix (l.drop k) [62,62]=false∧Lib.indexByte jM (l6 l k) < 0∧dn (l.drop k)=0):=by
 rw[R5,R5];have hg:=alP (l6 l k);rw[tu] at hg ⊢
 cases hl:l.drop k with
 |nil=>exact .inr (.inr (.inr ⟨rfl,rfl,zx,rfl⟩))
 |cons c r=>
  rw[hl] at hg;have e:((c::r).head?.getD 0)=c:=rfl;rw[e] at hg ⊢;rw[ny];by_cases h1:(c::r).take 2=[60,60]
  ·exact .inl ⟨zC h1,zW (.inl h1)⟩
  ·by_cases h2:(c::r).take 2=[62,62]
   ·exact .inr (.inl ⟨zN h1,zC h2,zW (.inr h2)⟩)
   ·rw[za (fun h=>h.elim h1 h2)]
    by_cases h3:c∈jM
    ·rw[zC h3] at hg;exact .inr (.inr (.inl ⟨zN h1,zN h2,xu hg,zW h3⟩))
    ·rw[zN h3] at hg;exact .inr (.inr (.inr ⟨zN h1,zN h2,by have:=of_decide_eq_false hg;omega,za h3⟩))
theorem XK (b k:Nat)(s:ByteArray)(t:Tk)(w:World)(hs:(s.size:Int)≤140737488355328)(hk:k≤s.size)(h:LX w b s k t):
 Calls Tryz.prog 87 #[.pointer (some ⟨b,0,none⟩)] w (OI w b k s):=by
 obtain⟨l,hl⟩:∃l,s.data.toList=l:=⟨_,rfl⟩;have hLs:l.length=s.size:=by rw[← hl];exact bF s
 obtain⟨c,hc⟩:∃c,l6 l k=c:=⟨_,rfl⟩;obtain⟨R,hR⟩:∃R,s.extract k s.size=R:=⟨_,rfl⟩;have hRl:R.data.toList=l.drop k:=by rw[← hR,uE,hl,yn (by rw[zH];omega)]
 have hcase:=Pz l k;have hle:=Dk (l.drop k);rw[← hRl,hc] at hcase
 have CT:Hid (∀W:World,LX W b s k t→Calls Tryz.prog 156 #[.pointer (some ⟨b,0,none⟩)] W fun e w'=>e= .returned (.string R)∧sG W w'):=fun W hW=>by
  have:=Ya b 0 k s W hs zy hW.line.1 hW.line.2;rw[hR] at this;exact this
 have CP:Hid (∀W:World,LX W b s k t→Calls Tryz.prog 83 #[.pointer (some ⟨b,0,none⟩)] W fun e w'=>e= .returned (.int .u8 (c.toNat:Int))∧sG W w'):=fun W hW=>by
  subst hl;subst hc;exact jv b 0 k s W hs hk hW.line.1 hW.line.2
 obtain⟨p1,hp1⟩:∃p,Lib.hasPrefix R.data.toList [60,60]=p:=⟨_,rfl⟩;obtain⟨p2,hp2⟩:∃p,Lib.hasPrefix R.data.toList [62,62]=p:=⟨_,rfl⟩;obtain⟨i,hi⟩:∃i,Lib.indexByte jM c=i:=⟨_,rfl⟩
 have C1:Hid (∀W:World,Calls Tryz.prog 158 #[.string R,.string ⟨#[60,60]⟩] W fun e w'=>e= .returned (.bool p1)∧w'=W):=fun W=>by
  have:=Tryz.strings_HasPrefix R ⟨#[60,60]⟩ W;rw[← hp1];exact this
 have C2:Hid (∀W:World,Calls Tryz.prog 158 #[.string R,.string ⟨#[62,62]⟩] W fun e w'=>e= .returned (.bool p2)∧w'=W):=fun W=>by
  have:=Tryz.strings_HasPrefix R ⟨#[62,62]⟩ W;rw[← hp2];exact this
 have C3:Hid (∀W:World,Calls Tryz.prog 155 #[.string ⟨#[44,40,41,43,45,42,47,38,124,94,126,58,61,36]⟩,.int .u8 (c.toNat:Int)] W fun e w'=>e= .returned (.int .i64 i)∧W=w'):=fun W=>by
  have:=alO c W;rw[hi] at this;exact this
 rw[hp1,hp2,hi] at hcase;obtain⟨n,hn⟩:∃n,dn (l.drop k)=n:=⟨_,rfl⟩;rw[hn] at hle;rw[hRl,hn] at hcase;have hnR:n≤R.size:=by rw[← bF,hRl];exact hle
 obtain⟨V,hV⟩:∃V,R.extract 0 n=V:=⟨_,rfl⟩;have HV:Hid (V=⟨((l.drop k).take n).toArray⟩):=uO (by rw[← hV,uE,hRl,List.drop_zero,ve])
 have H:=zo h;have kP:=zo hl;have HNn:Hid (dn (l.drop k)=n):=hn;have hks:(k:Int)+(n:Int)≤140737488355328:=by rw[zH] at hle;omega
 clear h hl hLs hc hR hRl hle hp1 hp2 hi hn;rcases hcase with⟨rfl,rfl⟩|⟨rfl,rfl,rfl⟩|⟨rfl,rfl,h1,rfl⟩|⟨rfl,rfl,h1,rfl⟩
 ·have hR2:(2:Int)≤(R.size:Int):=zy;have hk2:(k:Int)+2≤140737488355328:=zy;clear hks;go_enter Tryz.func87,Tryz.ntmps87;have X0:=H;have G0:=zo (aW w b)
  go_wp2_with (first
   |(go_at_call 156;refine (CT.out _ X0.out).mono ?_;rintro e w1 ⟨rfl,hd⟩;have X1:=X0.drew hd;have G1:=zo (dh G0.out hd);obtain⟨c0,c1,c2,c3,c4,c5⟩:=X1.cell;have f1:=X1.frozen 1;have f2:=X1.frozen 2;have f3:=X1.frozen 3;have f4:=X1.frozen 4;have f5:=X1.frozen 5;clear X0 G0 hd;have X0:=zo X1;have G0:=G1;clear X1 G1)
   |(go_at_call 158;(with_reducible refine (C1.out _).mono ?_);rintro e w1 ⟨rfl,rfl⟩))
  go_ret2;exact⟨aV (fC G0.out _ _ _ _) 1 _,.inr ⟨by rw[kP.out,HNn.out];decide,rfl,by rw[kP.out,HNn.out];exact (X0.tok ⟨4,_,0,0⟩ rfl (by rw[HV.out]) rfl rfl).to (k+2) rfl⟩⟩
 ·have hR2:(2:Int)≤(R.size:Int):=zy;have hk2:(k:Int)+2≤140737488355328:=zy;clear hks;go_enter Tryz.func87,Tryz.ntmps87;have X0:=H;have G0:=zo (aW w b)
  go_wp2_with (first
   |(go_at_call 156;refine (CT.out _ X0.out).mono ?_;rintro e w1 ⟨rfl,hd⟩;have X1:=X0.drew hd;have G1:=zo (dh G0.out hd);obtain⟨c0,c1,c2,c3,c4,c5⟩:=X1.cell;have f1:=X1.frozen 1;have f2:=X1.frozen 2;have f3:=X1.frozen 3;have f4:=X1.frozen 4;have f5:=X1.frozen 5;clear X0 G0 hd;have X0:=zo X1;have G0:=G1;clear X1 G1)
   |(go_at_call 158;(with_reducible refine (C1.out _).mono ?_);rintro e w1 ⟨rfl,rfl⟩)
   |(go_at_call 158;refine (C2.out _).mono ?_;rintro e w1 ⟨rfl,rfl⟩))
  go_ret2;exact⟨aV (fC G0.out _ _ _ _) 1 _,.inr ⟨by rw[kP.out,HNn.out];decide,rfl,by rw[kP.out,HNn.out];exact (X0.tok ⟨4,_,0,0⟩ rfl (by rw[HV.out]) rfl rfl).to (k+2) rfl⟩⟩
 ·have hR2:(1:Int)≤(R.size:Int):=zy;have hk2:(k:Int)+1≤140737488355328:=zy;clear hks;go_enter Tryz.func87,Tryz.ntmps87;have X0:=H;have G0:=zo (aW w b)
  go_wp2_with (first
   |(go_at_call 156;refine (CT.out _ X0.out).mono ?_;rintro e w1 ⟨rfl,hd⟩;have X1:=X0.drew hd;have G1:=zo (dh G0.out hd);obtain⟨c0,c1,c2,c3,c4,c5⟩:=X1.cell;have f1:=X1.frozen 1;have f2:=X1.frozen 2;have f3:=X1.frozen 3;have f4:=X1.frozen 4;have f5:=X1.frozen 5;clear X0 G0 hd;have X0:=zo X1;have G0:=G1;clear X1 G1)
   |(go_at_call 158;(with_reducible refine (C1.out _).mono ?_);rintro e w1 ⟨rfl,rfl⟩)
   |(go_at_call 158;refine (C2.out _).mono ?_;rintro e w1 ⟨rfl,rfl⟩)
   |(go_at_call 83;refine (CP.out _ X0.out).mono ?_;rintro e w1 ⟨rfl,hd⟩;have X1:=zo (X0.drew hd);have G1:=zo (dh G0.out hd);clear X0 G0 hd;have X0:=X1;have G0:=G1;clear X1 G1)
   |(go_at_call 155;refine (C3.out _).mono ?_;rintro e w1 ⟨rfl,rfl⟩))
  go_ret2;exact⟨aV (fC G0.out _ _ _ _) 1 _,.inr ⟨by rw[kP.out,HNn.out];decide,rfl,by rw[kP.out,HNn.out];exact (X0.tok ⟨4,_,0,0⟩ rfl (by rw[HV.out]) rfl rfl).to (k+1) rfl⟩⟩
 ·clear hks;go_enter Tryz.func87,Tryz.ntmps87;have X0:=H;have G0:=zo (aW w b)
  go_wp2_with (first
   |(go_at_call 156;refine (CT.out _ X0.out).mono ?_;rintro e w1 ⟨rfl,hd⟩;have X1:=zo (X0.drew hd);have G1:=zo (dh G0.out hd);clear X0 G0 hd;have X0:=X1;have G0:=G1;clear X1 G1)
   |(go_at_call 158;(with_reducible refine (C1.out _).mono ?_);rintro e w1 ⟨rfl,rfl⟩)
   |(go_at_call 158;refine (C2.out _).mono ?_;rintro e w1 ⟨rfl,rfl⟩)
   |(go_at_call 83;refine (CP.out _ X0.out).mono ?_;rintro e w1 ⟨rfl,hd⟩;have X1:=zo (X0.drew hd);have G1:=zo (dh G0.out hd);clear X0 G0 hd;have X0:=X1;have G0:=G1;clear X1 G1)
   |(go_at_call 155;refine (C3.out _).mono ?_;rintro e w1 ⟨rfl,rfl⟩))
  go_ret2;exact⟨G0.out,.inl ⟨by rw[kP.out,HNn.out],rfl,_,_,X0.out⟩⟩
def OQ (l:List UInt8)(k:Nat):Option (Tk×Nat):=
 if 0 < eB l then some (⟨1,l.take (eB l),0,k⟩,eB l)
 else if jg l then (oq (l.take (1+aY (l.drop 1)))).map fun v=>(⟨2,[],v,k⟩,1+aY (l.drop 1))
 else if l.head?.getD 0=34∨l.head?.getD 0=39 then none
 else if 0 < dn l then some (⟨4,l.take (dn l),0,k⟩,dn l) else none
def tks:Nat→List UInt8→Nat→Option (List Tk)
 |0,_,_=>none
 |f+1,l,k=>
  if qY (l.drop (aR l)) then some [⟨0,[],0,k+aR l⟩]
  else match OQ (l.drop (aR l)) (k+aR l) with
   |none=>none
   |some p=>(tks f ((l.drop (aR l)).drop p.2) (k+aR l+p.2)).map (p.1:: ·)
theorem acY {l:List UInt8}{k:Nat}{p:Tk×Nat}(h:OQ l k=some p):1≤p.2∧p.2≤l.length∧p.1.at_=k:=by
 unfold OQ at h;split at h
 ·rename_i hw;obtain rfl:=zq h;exact⟨hw,O6 l,rfl⟩
 ·split at h
  ·rename_i hn;obtain⟨v,_,rfl⟩:=zi.1 h
   cases l with
   |nil=>cases hn
   |cons c r=>
    refine⟨by show 1≤1+_;omega,?_,rfl⟩
    have:=mf r;show 1+aY r≤r.length+1;omega
  ·split at h
   ·cases h
   ·split at h
    ·rename_i hz;obtain rfl:=zq h;exact⟨hz,Dk l,rfl⟩
    ·cases h
theorem ac1 (b k:Nat)(s:ByteArray)(t:Tk)(w:World)(hs:(s.size:Int)≤140737488355328)(hk:k≤s.size)(h:LX w b s k t)(c:UInt8)(hc:l6 s.data.toList k=c)(h1:c≠34)(h2:c≠39):
 Calls Tryz.prog 86 #[.pointer (some ⟨b,0,none⟩)] w fun e w'=>e= .returned (.tuple #[.bool false,.int .i64 0])∧LX w' b s k t∧w.grownBy w' (some b):=by
 have CP:Hid (Calls Tryz.prog 83 #[.pointer (some ⟨b,0,none⟩)] w fun e w'=>e= .returned (.int .u8 (c.toNat:Int))∧sG w w'):=by
  subst hc;exact jv b 0 k s w hs hk h.line.1 h.line.2
 have d1:((c.toNat:Int) != 34)=true:=by rw[bne,jS h1 (z:=34) zx];rfl
 have d2:((c.toNat:Int) != 39)=true:=by rw[bne,jS h2 (z:=39) zx];rfl
 have H:=zo h;clear h hc h1 h2;go_enter Tryz.func86,Tryz.ntmps86
 go_wp2_with (go_at_call 83;refine CP.mono ?_;rintro e w1 ⟨rfl,hd⟩;have D1:=zo hd;clear hd)
 go_ret2;exact⟨rfl,H.drew D1.out,dh (aW w b) D1.out⟩
theorem adp (b:Nat)(W:World):(Instr.index 186 (.agg #[.func (.func 84) #[.pointer (some ⟨b,0,none⟩)] #[],.func (.func 85) #[.pointer (some ⟨b,0,none⟩)] #[],.func (.func 86) #[.pointer (some ⟨b,0,none⟩)] #[],.func (.func 87) #[.pointer (some ⟨b,0,none⟩)] #[]]) (.int .i64 0)).run Tryz.prog W= .ok (.func (.func 84) #[.pointer (some ⟨b,0,none⟩)] #[]) W:=by kernel_rfl
theorem ado (b:Nat)(W:World):(Instr.index 186 (.agg #[.func (.func 84) #[.pointer (some ⟨b,0,none⟩)] #[],.func (.func 85) #[.pointer (some ⟨b,0,none⟩)] #[],.func (.func 86) #[.pointer (some ⟨b,0,none⟩)] #[],.func (.func 87) #[.pointer (some ⟨b,0,none⟩)] #[]]) (.int .i64 1)).run Tryz.prog W= .ok (.func (.func 85) #[.pointer (some ⟨b,0,none⟩)] #[]) W:=by kernel_rfl
theorem adn (b:Nat)(W:World):(Instr.index 186 (.agg #[.func (.func 84) #[.pointer (some ⟨b,0,none⟩)] #[],.func (.func 85) #[.pointer (some ⟨b,0,none⟩)] #[],.func (.func 86) #[.pointer (some ⟨b,0,none⟩)] #[],.func (.func 87) #[.pointer (some ⟨b,0,none⟩)] #[]]) (.int .i64 2)).run Tryz.prog W= .ok (.func (.func 86) #[.pointer (some ⟨b,0,none⟩)] #[]) W:=by kernel_rfl
theorem adm (b:Nat)(W:World):(Instr.index 186 (.agg #[.func (.func 84) #[.pointer (some ⟨b,0,none⟩)] #[],.func (.func 85) #[.pointer (some ⟨b,0,none⟩)] #[],.func (.func 86) #[.pointer (some ⟨b,0,none⟩)] #[],.func (.func 87) #[.pointer (some ⟨b,0,none⟩)] #[]]) (.int .i64 3)).run Tryz.prog W= .ok (.func (.func 87) #[.pointer (some ⟨b,0,none⟩)] #[]) W:=by kernel_rfl
section
variable {b k:Nat} {s:ByteArray} {t u:Tk} {n:Nat}
def Rdr (b k:Nat)(s:ByteArray)(t:Tk)(f:FuncId)(y:Bool)(u:Tk)(k':Nat):Prop:=∀W:World,LX W b s k t→Calls Tryz.prog f #[.pointer (some ⟨b,0,none⟩)] W fun e w'=>e= .returned (.tuple #[.bool y,.int .i64 0])∧LX w' b s k' u∧W.grownBy w' (some b)
theorem aez (hs:(s.size:Int)≤140737488355328)(hk:k < s.size){p:Tk×Nat}(h:OQ (s.data.toList.drop k) k=some p):
 ∃u:Tk,p.1=⟨u.kind,u.text,u.n,k⟩∧(Rdr b k s t 84 true u (k+p.2)∨
  (Rdr b k s t 84 false t k∧(Rdr b k s t 85 true u (k+p.2)∨
    (Rdr b k s t 85 false t k∧Rdr b k s t 86 false t k∧Rdr b k s t 87 true u (k+p.2))))):=by
 obtain⟨l,hl⟩:∃l,s.data.toList=l:=⟨_,rfl⟩;have hhd:l6 l k=(l.drop k).head?.getD 0:=tu l k;have W:=fun W (h:LX W b s k t)=>WZ b k s t W hs zy h
 have N:=fun W (h:LX W b s k t)=>Qa b k s t W hs zy h
 have T:=fun W (h:LX W b s k t)=>ac1 b k s t W hs zy h _ rfl
 have S:=fun W (h:LX W b s k t)=>XK b k s t W hs zy h
 unfold OH at W;unfold CG at N;unfold OI at S;rw[hl] at W N T S h;unfold OQ at h;split at h
 ·rename_i hw;obtain rfl:=zq h;refine⟨⟨1,(l.drop k).take (eB (l.drop k)),0,0⟩,rfl,.inl fun w h=>(W w h).mono fun e w' ⟨hg,h⟩=>?_⟩
  rcases h with⟨h1,_⟩|⟨_,h2,h3⟩
  ·omega
  ·exact⟨h2,h3,hg⟩
 ·rename_i hw
  have W0:Rdr b k s t 84 false t k:=fun w h=>(W w h).mono fun e w' ⟨hg,h⟩=>by
   rcases h with⟨_,h2,h3⟩|⟨h1,_⟩
   ·exact⟨h2,h3,hg⟩
   ·omega
  split at h
  ·rename_i hn;obtain⟨v,hv,rfl⟩:=zi.1 h;refine⟨⟨2,[],v,0⟩,rfl,.inr ⟨W0,.inl fun w h=>(N w h).mono fun e w' ⟨hg,h⟩=>?_⟩⟩
   rcases h with⟨h1,_⟩|⟨_,m,rfl,h|⟨v',h,h2,h3⟩⟩
   ·rw[hn] at h1;cases h1
   ·rw[hv] at h;cases h.1
   ·rw[hv] at h;obtain rfl:=zq h;exact⟨h2,h3,hg⟩
  ·rename_i hn
   have N0:Rdr b k s t 85 false t k:=fun w h=>(N w h).mono fun e w' ⟨hg,h⟩=>by
    rcases h with⟨_,h2,h3⟩|⟨h1,_⟩
    ·exact⟨h2,h3,hg⟩
    ·exact absurd h1 hn
   split at h
   ·cases h
   ·rename_i hq;split at h
    ·rename_i hz;obtain rfl:=zq h;refine⟨⟨4,(l.drop k).take (dn (l.drop k)),0,0⟩,rfl,.inr ⟨W0,.inr ⟨N0,fun w h=>T w h (fun e=>hq (.inl (hhd ▸ e))) (fun e=>hq (.inr (hhd ▸ e))),fun w h=>(S w h).mono fun e w' ⟨hg,h⟩=>?_⟩⟩⟩
     rcases h with⟨h1,_⟩|⟨_,h2,h3⟩
     ·omega
     ·exact⟨h2,h3,hg⟩
    ·cases h
theorem YS (w:World)(hs:(s.size:Int)≤140737488355328)(hk:k < s.size){p:Tk×Nat}(hp:OQ (s.data.toList.drop k) k=some p)(h:LX w b s k t):
 Calls Tryz.prog 39 #[.pointer (some ⟨b,0,none⟩)] w fun e w'=>e= .returned (.int .i64 0)∧LX w' b s (k+p.2) p.1∧w.grownBy w' (some b):=by
 obtain⟨u,hu,how⟩:=aez (b:=b) (t:=t) hs hk hp;have H:=zo h;obtain⟨c0,c1,_⟩:=h.cell;have HF:Hid (∀w',LX w' b s (k+p.2) u→w.grownBy w' (some b)→LX (w'.setCell ⟨b,5,none⟩ (.int .i64 (k:Int))) b s (k+p.2) p.1∧w.grownBy (w'.setCell ⟨b,5,none⟩ (.int .i64 (k:Int))) (some b)):=fun w' hx hg=>⟨by rw[hu];exact hx.setAt k rfl,aV hg 5 _⟩
 have r0:=adp b;have r1:=ado b;have r2:=adn b;have r3:=adm b;clear h hs hk hp hu;rcases how with R|⟨K1,R|⟨K2,K3,R⟩⟩
 ·have RR:=zo R;clear R;go_enter Tryz.func39,Tryz.ntmps39;go_wp2;refine xG 1 ?_;rw[y7]
  go_wp2_with (go_at_call 84;refine (RR.out _ H.out).mono ?_;rintro e w1 ⟨rfl,hx,hg⟩;have g5:=hx.frozen 5;obtain⟨z0,z1,z2,z3,z4,z5⟩:=hx.cell;have Q1:=zo (HF.out _ hx hg);clear hx hg)
  go_ret;exact⟨rfl,Q1.out⟩
 ·have RR:=zo R;have KK1:=zo K1;clear R K1;go_enter Tryz.func39,Tryz.ntmps39;go_wp2;refine xG 2 ?_;rw[y7]
  go_wp2_with (go_at_call 84;refine (KK1.out _ H.out).mono ?_;rintro e w1 ⟨rfl,hx,hg⟩;have X1:=zo hx;have G1:=zo hg;clear hx hg)
  rw[y7]
  go_wp2_with (go_at_call 85;refine (RR.out _ X1.out).mono ?_;rintro e w2 ⟨rfl,hx,hg⟩;have g5:=hx.frozen 5;obtain⟨z0,z1,z2,z3,z4,z5⟩:=hx.cell;have Q1:=zo (HF.out _ hx (grownBy_trans G1.out hg));clear hx hg)
  go_ret;exact⟨rfl,Q1.out⟩
 ·have RR:=zo R;have KK1:=zo K1;have KK2:=zo K2;have KK3:=zo K3;clear R K1 K2 K3;go_enter Tryz.func39,Tryz.ntmps39;go_wp2;refine xG 4 ?_;rw[y7]
  go_wp2_with (go_at_call 84;refine (KK1.out _ H.out).mono ?_;rintro e w1 ⟨rfl,hx,hg⟩;have X1:=zo hx;have G1:=zo hg;clear hx hg)
  rw[y7]
  go_wp2_with (go_at_call 85;refine (KK2.out _ X1.out).mono ?_;rintro e w2 ⟨rfl,hx,hg⟩;have X2:=zo hx;have G2:=zo (grownBy_trans G1.out hg);clear hx hg)
  rw[y7]
  go_wp2_with (go_at_call 86;refine (KK3.out _ X2.out).mono ?_;rintro e w3 ⟨rfl,hx,hg⟩;have X3:=zo hx;have G3:=zo (grownBy_trans G2.out hg);clear hx hg)
  rw[y7]
  go_wp2_with (go_at_call 87;refine (RR.out _ X3.out).mono ?_;rintro e w4 ⟨rfl,hx,hg⟩;have g5:=hx.frozen 5;obtain⟨z0,z1,z2,z3,z4,z5⟩:=hx.cell;have Q1:=zo (HF.out _ hx (grownBy_trans G3.out hg));clear hx hg)
  go_ret;exact⟨rfl,Q1.out⟩
end
theorem uu:∀d:Fin 16,iO (hd d.val)=true∧((hd d.val).toNat≤57→kS (hd d.val)=true)∧(d.val≤9→kS (hd d.val)=true):=by decide+kernel
theorem NA (n:Nat):∀x∈pE n,∃d,d < 16∧x=hd d:=by
 induction n using Nat.strongRecOn with
 |ind n ih=>
  intro x hx;by_cases h:n < 16
  ·rw[fP h] at hx;exact⟨n,h,zR.1 hx⟩
  ·rw[jC h] at hx;rcases zA.1 hx with hx|hx
   ·exact ih (n / 16) zy x hx
   ·exact⟨n % 16,zy,zR.1 hx⟩
theorem kY (v:Nat)(h:v≤65535):∃c r,textOf (v:Int)=c::r∧kS c=true∧∀x∈r,iO x=true:=by
 by_cases h9:(v:Int)≤9
 ·rw[textOf,za zy,zW h9,wV];exact⟨_,[],rfl,(uu ⟨v,zy⟩).2.2 (by show v≤9;omega),fun x hx=>(by cases hx)⟩
 ·rw[textOf,za zy,za h9,wV];obtain⟨d,h1,h2,r,hr⟩:=Au v zy;have hall:=NA v;rw[hr] at hall
  have hrest:∀x∈r,iO x=true:=fun x hx=>by
   obtain⟨d',hd',rfl⟩:=hall x (by simp[hx])
   exact (uu ⟨d',hd'⟩).1
  unfold Z4;rw[hr];dsimp only;by_cases h57:57 < (hd d).toNat
  ·rw[zW h57];refine⟨48,hd d::(r++[72]),rfl,rfl,fun x hx=>?_⟩
   rcases zQ.1 hx with rfl|hx
   ·exact (uu ⟨d,h1⟩).1
   ·rcases zA.1 hx with hx|hx
    ·exact hrest x hx
    ·rw[zR.1 hx];rfl
  ·rw[za h57];refine⟨hd d,r++[72],rfl,(uu ⟨d,h1⟩).2.1 (by show (hd d).toNat≤57;omega),fun x hx=>?_⟩
   rcases zA.1 hx with hx|hx
   ·exact hrest x hx
   ·rw[zR.1 hx];rfl
theorem Z5:∀d:Fin 16,hv (hd d.val)=d.val∧gQ (hd d.val)=hd d.val∧((hd d.val).toNat≤57↔d.val < 10):=by decide+kernel
theorem hd3 {d:Nat}(h:d < 16):hv (hd d)=d∧gQ (hd d)=hd d∧((hd d).toNat≤57↔d < 10):=Z5 ⟨d,h⟩
theorem Vh (n:Nat):n≤65535→lQ 16 0 (pE n)=some n:=by
 induction n using Nat.strongRecOn with
 |ind n ih=>
  intro hn;by_cases h:n < 16
  ·rw[fP h,mG,(hd3 h).1,zW ⟨h,zy⟩];show some (0 * 16+n)=some n;rw[Nat.zero_mul,yD]
  ·rw[jC h,lq,ih (n / 16) zy zy,Option.bind_some,mG,(hd3 (show n % 16 < 16 by omega)).1,zW ⟨zy,zy⟩]
   show some (n / 16 * 16+n % 16)=some n
   congr 1
   omega
theorem aoI (n:Nat):(pE n).map gQ=pE n:=by
 induction n using Nat.strongRecOn with
 |ind n ih=>
  by_cases h:n < 16
  ·rw[fP h,zO,(hd3 h).2.1];rfl
  ·rw[jC h,yu,ih (n / 16) zy,zO,(hd3 (show n % 16 < 16 by omega)).2.1];rfl
theorem RN (a b:List UInt8):Lib.hasSuffix (a++b) b=true∧Lib.trimSuffix (a++b) b=a:=by
 have h:Lib.hasSuffix (a++b) b=true:=by
  unfold Lib.hasSuffix;rw[List.isSuffixOf_iff_suffix];exact List.suffix_append a b
 exact⟨h,by unfold Lib.trimSuffix;rw[zW h];simp⟩
theorem aet:∀n:Fin 256,kS (UInt8.ofNat n.val)=true→gQ (UInt8.ofNat n.val)≠36∧(UInt8.ofNat n.val).toNat≤57∧gQ (UInt8.ofNat n.val)=UInt8.ofNat n.val:=by decide+kernel
theorem aqQ:∀d:Fin 16,hd d.val≠88:=by decide+kernel
theorem Ms {c:UInt8}{r:List UInt8}{v:Nat}(hc:kS c=true)(hr:∀x∈r,∃d,d < 16∧x=hd d)(hv:gU 16 (c::r)=some v):oq (c::r++[72])=some v:=by
 have hp:=aet ⟨c.toNat,c.toNat_lt⟩ (by simpa using hc)
 simp only[UInt8.ofNat_toNat] at hp
 have hu:(c::r++[72]).map gQ=c::r++[72]:=by
  rw[yu,zO,hp.2.2]
  congr 2
  refine (yt fun x hx=>?_).trans (vz _)
  obtain⟨d,h1,rfl⟩:=hr x hx;exact (hd3 h1).2.1
 refine jc (k:=3) zx (fun j hj=>?_) ?_
 ·match j,hj with
  |0,_=>
   show gU 10 (c::r++[72])=none
   cases hq:gU 10 (c::r++[72]) with
   |none=>rfl
   |some m=>have:=(YM hq).2 72 zw;exact absurd this zx
  |1,_=>
   unfold rZ;rw[za];show ¬Lib.hasPrefix ((c::r++[72]).map gQ) [48,88]=true;rw[hu]
   cases r with
   |nil=>simp[Lib.hasPrefix,List.isPrefixOf]
   |cons x r=>
    obtain⟨d,h1,rfl⟩:=hr x zw;have:=aqQ ⟨d,h1⟩;simp[Lib.hasPrefix,List.isPrefixOf];intro _ e;exact this e.symm
  |2,_=>
   unfold rZ;rw[za];show ¬Lib.hasPrefix ((c::r++[72]).map gQ) [36]=true;rw[yu,zO];simp[Lib.hasPrefix,List.isPrefixOf];exact fun e=>hp.1 e.symm
 ·obtain⟨h1,h2⟩:=RN (c::r) [72];unfold rZ;show (if (Lib.hasSuffix ((c::r++[72]).map gQ) [72] && hok (Lib.trimSuffix ((c::r++[72]).map gQ) [72]))=true then gU 16 (Lib.trimSuffix ((c::r++[72]).map gQ) [72]) else none)=some v
  rw[hu,h1,h2,zW (by simp[hok,hp.2.1])]
  exact hv
theorem Js:∀d:Fin 10,oq [hd d.val]=some d.val:=by decide+kernel
theorem UK (v:Nat)(h:v≤65535):oq (textOf (v:Int))=some v:=by
 by_cases h9:(v:Int)≤9
 ·rw[textOf,za zy,zW h9,wV];exact Js ⟨v,zy⟩
 ·rw[textOf,za zy,za h9,wV];obtain⟨d,h1,h2,r,hr⟩:=Au v zy;have hall:=NA v;have hn:=Vh v h;rw[hr] at hall hn;have hR:∀x∈r,∃d,d < 16∧x=hd d:=fun x hx=>hall x (by simp[hx])
  unfold Z4;rw[hr];dsimp only;by_cases h57:57 < (hd d).toNat
  ·rw[zW h57];refine Ms (c:=48) (r:=hd d::r) rfl hall ?_;unfold gU;rw[za zw,mG,zW ⟨zx,zx⟩];exact hn
  ·rw[za h57];refine Ms ((uu ⟨d,h1⟩).2.1 (by show (hd d).toNat≤57;omega)) hR ?_
   unfold gU;rw[za zw];exact hn
theorem Bt {r m:List UInt8}(h:∀x∈r,iO x=true)(hm:∀c,m.head? =some c→iO c=false):aY (r++m)=r.length:=by
 induction r with
 |nil=>
  cases m with
  |nil=>rfl
  |cons c m=>
   rw[xD,aY,za (by rw[hm c rfl];simp)]
   rfl
 |cons c r ih=>rw[xm,aY,zW (h c zw),ih (fun x hx=>h x (by simp[hx])),yw]
abbrev Pc:=List UInt8×Nat×List UInt8×Nat
def pT (p:Pc):List UInt8:=if p.2.1=2 then textOf (p.2.2.2:Int) else p.2.2.1
def pK (p:Pc)(k:Nat):Tk:=⟨p.2.1,if p.2.1=2 then [] else p.2.2.1,p.2.2.2,k⟩
def oF:List Pc→List UInt8
 |[]=>[]
 |p::l=>p.1++pT p++oF l
def R6:Nat→List Pc→List Tk
 |k,[]=>[⟨0,[],0,k⟩]
 |k,p::l=>pK p (k+p.1.length)::R6 (k+p.1.length+(pT p).length) l
def F8 (p:Pc)(m:List UInt8):Prop:=
 (∀c∈p.1,Ap c=true)∧
 ((p.2.1=1∧p.2.2.2=0∧(∃c r,p.2.2.1=c::r∧Cu c=true∧(∀x∈r,iO x=true))∧∀c,m.head? =some c→iO c=false∧c≠39)∨
  (p.2.1=1∧p.2.2.2=0∧p.2.2.1=[65,70,39])∨
  (p.2.1=2∧p.2.2.1=[]∧p.2.2.2≤65535∧∀c,m.head? =some c→iO c=false)∨
  (p.2.1=4∧p.2.2.2=0∧∃c,p.2.2.1=[c]∧c∈jM∧(c=36→∀x,m.head? =some x→iO x=false)))
theorem abo {b m:List UInt8}(h:∀c∈b,Ap c=true)(hm:∀c,m.head? =some c→Ap c=false):aR (b++m)=b.length:=by
 induction b with
 |nil=>
  cases m with
  |nil=>rfl
  |cons c m=>
   rw[xD,aR,za (by rw[hm c rfl];simp)]
   rfl
 |cons c b ih=>rw[xm,aR,zW (h c zw),ih (fun x hx=>h x (by simp[hx])),yw]
theorem EZ {P:UInt8→Prop}(h:∀n:Fin 256,P (UInt8.ofNat n.val))(c:UInt8):P c:=by
 have:=h ⟨c.toNat,c.toNat_lt⟩
 simpa using this
def FF (c:UInt8):Prop:=(Cu c=true∨kS c=true∨c∈jM)→Ap c=false∧(c == 59)=false
def KF (c:UInt8):Prop:=(kS c=true→Cu c=false)∧(c∈jM→Cu c=false∧kS c=false∧c≠37∧c≠34∧c≠39∧c≠60∧c≠62)∧(Cu c=true→iO c=true)
theorem pI (c:UInt8):FF c:=EZ (P:=FF) (by unfold FF;decide+kernel) c
theorem nI (c:UInt8):KF c:=EZ (P:=KF) (by unfold KF;decide+kernel) c
theorem Xp {p:Pc}{m:List UInt8}(h:F8 p m)(k:Nat):OQ (pT p++m) k=some (pK p k,(pT p).length)∧∃c r,pT p=c::r∧Ap c=false∧(c == 59)=false:=by
 obtain⟨bl,kd,tx,n⟩:=p;obtain⟨_,⟨rfl,rfl,⟨c,r,e,hc,hr⟩,hm⟩|⟨rfl,rfl,e⟩|⟨rfl,e,hn,hm⟩|⟨rfl,rfl,c,e,hc,hm⟩⟩:=h
 ·dsimp only at e hm;subst e
  have hw:eB (c::r++m)=(c::r).length:=by
   have hl:=Bt (r:=c::r) (m:=m) (fun x hx=>by
    rcases zQ.1 hx with rfl|hx
    ·exact (nI x).2.2 hc
    ·exact hr x hx) (fun x hx=>(hm x hx).1)
   rw[xm] at hl ⊢;rw[fJ,zW hc,hl,za];rw[xk];rintro ⟨_,h⟩;rw[← xm,yR (zn _),Nat.sub_self,← List.head?_eq_getElem?] at h;exact (hm 39 (by simpa using h)).2 rfl
  refine⟨?_,c,r,rfl,pI c (.inl hc)⟩;show OQ (c::r++m) k=_;unfold OQ;rw[hw,zW zw,List.take_left' rfl];rfl
 ·dsimp only at e;subst e;refine⟨?_,65,[70,39],rfl,rfl,rfl⟩
  have hw:eB (65::70::39::m)=3:=by
   have hl:aY (65::70::39::m)=2:=rfl;rw[fJ,hl];rfl
  show OQ (65::70::39::m) k=_;unfold OQ;rw[hw];rfl
 ·dsimp only at e hn hm;subst e;obtain⟨c,r,e,hc,hr⟩:=kY n hn;have hp:=UK n hn;have hb:=pI c (.inr (.inl hc));have hT:pT (bl,2,[],n)=c::r:=e;refine⟨?_,c,r,hT,hb⟩;rw[hT];rw[e] at hp;have hw:eB (c::(r++m))=0:=by rw[fJ,za (by rw[(nI c).1 hc];simp)]
  have aiW:jg (c::(r++m))=true:=by
   show (kS c || _ || _)=true;rw[hc];rfl
  unfold OQ;rw[xm,hw,za (Nat.lt_irrefl 0),zW aiW];have hl:=Bt hr hm;have hd:List.drop 1 (c::(r++m))=r++m:=rfl;rw[hd,hl,show 1+r.length=r.length+1 from Nat.add_comm _ _,List.take_succ_cons,List.take_left' rfl,hp]
  rfl
 ·dsimp only at e hm;subst e;have hk:=(nI c).2.1 hc;refine⟨?_,c,[],rfl,pI c (.inr (.inr hc))⟩;show OQ (c::m) k=_;unfold OQ
  have aiW:jg (c::m)=false:=by
   show (kS c || c == 37 || (c == 36 && decide (0 < aY m)))=false;rw[hk.2.1];have h37:(c == 37)=false:=by simpa using hk.2.2.1
   rw[h37];by_cases h36:c=36
   ·have:aY m=0:=by
     cases m with
     |nil=>rfl
     |cons x m=>rw[aY,za (by rw[hm h36 x rfl];simp)]
    simp[this]
   ·have:(c == 36)=false:=by simpa using h36
    rw[this];rfl
  have hs:dn (c::m)=1:=by
   rw[ny,za,zW hc];rintro (h|h)
   ·cases m with
    |nil=>cases h
    |cons x m=>
     injection h with h _
     exact hk.2.2.2.2.2.1 h
   ·cases m with
    |nil=>cases h
    |cons x m=>
     injection h with h _
     exact hk.2.2.2.2.2.2 h
  have hw:eB (c::m)=0:=by rw[fJ,za (by rw[hk.1];simp)]
  rw[hw,za (Nat.lt_irrefl 0),aiW,za zw,za (fun h=>h.elim hk.2.2.2.1 hk.2.2.2.2.1),hs,zW zy]
  rfl
def OL:List Pc→Prop
 |[]=>True
 |p::l=>F8 p (oF l)∧OL l
theorem RB:∀(l:List Pc) (k:Nat),OL l→tks (l.length+1) (oF l) k=some (R6 k l)
 |[],k,_=>rfl
 |p::l,k,h=>by
  obtain⟨h1,c,r,e,hb,h59⟩:=Xp h.1 (k+p.1.length)
  have hB:aR (oF (p::l))=p.1.length:=by
   show aR (p.1++pT p++oF l)=_;rw[yc]
   exact abo h.1.1 (fun x hx=>by
    rw[e] at hx;rw[← zq hx];exact hb)
  have hD:(oF (p::l)).drop p.1.length=pT p++oF l:=by
   show (p.1++pT p++oF l).drop _=_;rw[yc,List.drop_left' rfl]
  rw[yw,tks,hB,hD,za,h1]
  ·dsimp only;rw[List.drop_left' rfl,RB l _ h.2];rfl
  ·rw[e];show ¬(c == 59)=true;rw[h59];simp
end
section
open Go.RowKit Ex
theorem Dc {w:World}(hG:eT w):WT w:=hG _ _ rfl 15 _ rfl
def BS (n:Int):List UInt8:=if n < 0 then 45::textOf (-n) else 43::textOf n
theorem Ox (c:UInt8)(l:List UInt8):(⟨#[c]⟩:ByteArray)++⟨l.toArray⟩=⟨(c::l).toArray⟩:=by
 apply xn;simp[ByteArray.data_append]
theorem gT (n:Int):(textOf n).length≤6:=by
 unfold textOf;split
 ·simp
 ·split
  ·simp
  ·rename_i h1 h2;have:=Eo (n:=n.toNat) zy;unfold Z4;split
   ·simp
   ·rename_i c r hr;rw[hr] at this;simp at this;split<;>simp<;>omega
theorem XN (n:Int):(BS n).length≤7:=by
 unfold BS;split<;>simp[gT]
theorem I7 (n:Int):(⟨(textOf n).toArray⟩:ByteArray).size≤6:=by
 show (textOf n).toArray.size≤6
 simpa using gT n
theorem afW (n:Int):(⟨(BS n).toArray⟩:ByteArray).size≤7:=by
 show (BS n).toArray.size≤7
 simpa using XN n
theorem rG (n:Int)(h1: -65535≤n)(h2:n≤65535)(w:World)(hG:eT w):Calls Tryz.prog 306 #[.int .i64 n] w fun e w'=>e= .returned (.string ⟨(BS n).toArray⟩)∧Below w.heap.size w w':=by
 have CT:=zo (fun m=>oM m w (Dc hG))
 clear hG;by_cases h:n < 0
 ·have hs:(⟨(BS n).toArray⟩:ByteArray)=⟨#[45]⟩++⟨(textOf (-n)).toArray⟩:=by rw[BS,zW h,← Ox]
  have C1:=zo (CT.out (-n));have hz:=I7 (-n);have hd:decide (n < 0)=true:=zC h;rw[hs];generalize (⟨(textOf (-n)).toArray⟩:ByteArray)=S at C1 hz ⊢;clear CT hs;go_enter Tryz.func306,Tryz.ntmps306
  go_wp2_with (go_at_call 50;refine C1.mono ?_;rintro e w1 ⟨rfl,hb⟩;have HB:=zo hb;clear hb)
  go_ret;exact⟨rfl,HB.out⟩
 ·have hs:(⟨(BS n).toArray⟩:ByteArray)=⟨#[43]⟩++⟨(textOf n).toArray⟩:=by rw[BS,za h,← Ox]
  have C1:=zo (CT.out n);have hz:=I7 n;have hd:decide (n < 0)=false:=zN h;rw[hs];generalize (⟨(textOf n).toArray⟩:ByteArray)=S at C1 hz ⊢;clear CT hs;go_enter Tryz.func306,Tryz.ntmps306
  go_wp2_with (go_at_call 50;refine C1.mono ?_;rintro e w1 ⟨rfl,hb⟩;have HB:=zo hb;clear hb)
  go_ret;exact⟨rfl,HB.out⟩
def Sb (k:Nat)(reg:List UInt8)(n:Int):List UInt8:=match k with
 |5=>40::(reg++BS n++[41])
 |6=>if n < 0 then BS n else textOf n
 |7=>40::(textOf n++[41])
 |_=>36::BS (n+2)
theorem aat (R:ByteArray)(hR:R.size≤10)(n:Int)(h1: -128≤n)(h2:n≤127)(w:World)(hG:eT w):Calls Tryz.prog 305 #[.string R,.int .i64 n] w fun e w'=>e= .returned (.string ⟨(Sb 5 R.data.toList n).toArray⟩)∧Below w.heap.size w w':=by
 have C1:=zo (rG n zy zy w hG);have hz:=afW n
 have hs:(⟨(Sb 5 R.data.toList n).toArray⟩:ByteArray)=⟨#[40]⟩++R++⟨(BS n).toArray⟩++⟨#[41]⟩:=by
  apply xn;simp[Sb,ByteArray.data_append]
 rw[hs];generalize (⟨(BS n).toArray⟩:ByteArray)=S at C1 hz ⊢;clear hs hG;go_enter Tryz.func305,Tryz.ntmps305
 go_wp2_with (go_at_call 306;refine C1.mono ?_;rintro e w1 ⟨rfl,hb⟩;have HB:=zo hb;clear hb)
 go_ret;exact⟨rfl,HB.out⟩
theorem ajB (R:ByteArray)(n:Int)(h1: -32768≤n)(h2:n≤65535)(w:World)(hG:eT w):Calls Tryz.prog 307 #[.string R,.int .i64 n] w fun e w'=>e= .returned (.string ⟨(Sb 6 R.data.toList n).toArray⟩)∧Below w.heap.size w w':=by
 by_cases h:n < 0
 ·have C1:=zo (rG n zy zy w hG);have hs:Sb 6 R.data.toList n=BS n:=zW h;rw[hs];clear hs hG;go_enter Tryz.func307,Tryz.ntmps307
  go_wp2_with (go_at_call 306;refine C1.mono ?_;rintro e w1 ⟨rfl,hb⟩;have HB:=zo hb;clear hb)
  go_ret;exact⟨rfl,HB.out⟩
 ·have C1:=zo (oM n w (Dc hG));have hs:Sb 6 R.data.toList n=textOf n:=za h;rw[hs];clear hs hG;go_enter Tryz.func307,Tryz.ntmps307
  go_wp2_with (go_at_call 50;refine C1.mono ?_;rintro e w1 ⟨rfl,hb⟩;have HB:=zo hb;clear hb)
  go_ret;exact⟨rfl,HB.out⟩
theorem ajA (R:ByteArray)(n:Int)(w:World)(hG:eT w):Calls Tryz.prog 308 #[.string R,.int .i64 n] w fun e w'=>e= .returned (.string ⟨(Sb 7 R.data.toList n).toArray⟩)∧Below w.heap.size w w':=by
 have C1:=zo (oM n w (Dc hG));have hz:=I7 n
 have hs:(⟨(Sb 7 R.data.toList n).toArray⟩:ByteArray)=⟨#[40]⟩++⟨(textOf n).toArray⟩++⟨#[41]⟩:=by
  apply xn;simp[Sb,ByteArray.data_append]
 rw[hs];generalize (⟨(textOf n).toArray⟩:ByteArray)=S at C1 hz ⊢;clear hs hG;go_enter Tryz.func308,Tryz.ntmps308
 go_wp2_with (go_at_call 50;refine C1.mono ?_;rintro e w1 ⟨rfl,hb⟩;have HB:=zo hb;clear hb)
 go_ret;exact⟨rfl,HB.out⟩
theorem aeY (R:ByteArray)(n:Int)(h1: -128≤n)(h2:n≤127)(w:World)(hG:eT w):Calls Tryz.prog 309 #[.string R,.int .i64 n] w fun e w'=>e= .returned (.string ⟨(Sb 10 R.data.toList n).toArray⟩)∧Below w.heap.size w w':=by
 have C1:=zo (rG (n+2) zy zy w hG);have hz:=afW (n+2)
 have hs:(⟨(Sb 10 R.data.toList n).toArray⟩:ByteArray)=⟨#[36]⟩++⟨(BS (n+2)).toArray⟩:=by
  apply xn;simp[Sb,ByteArray.data_append]
 rw[hs];generalize (⟨(BS (n+2)).toArray⟩:ByteArray)=S at C1 hz ⊢;clear hs hG;go_enter Tryz.func309,Tryz.ntmps309
 go_wp2_with (go_at_call 306;refine C1.mono ?_;rintro e w1 ⟨rfl,hb⟩;have HB:=zo hb;clear hb)
 go_ret;exact⟨rfl,HB.out⟩
theorem Xv {x:Nat×Nat×Int×Int×Nat}(hx:x∈qM){n:Int}(h1:x.2.2.1≤n)(h2:n≤x.2.2.2.1)(w:World)(hG:eT w)(S:ByteArray)
 (hF:∀W,Below w.heap.size w W→Calls Tryz.prog x.2.2.2.2 #[.string (ag (ky x.1 x.2.1)),.int .i64 n] W fun e w'=>e= .returned (.string S)∧Below W.heap.size W w'):
 Calls Tryz.prog 107 #[.agg #[.int .i64 (x.1:Int),.int .i64 (x.2.1:Int),.int .i64 n]] w fun e w'=>e= .returned (.string S)∧Below w.heap.size w w':=by
 have CO:=zo (fun W (hb:Below w.heap.size w W)=>aid hx h1 h2 W (hG.after hb))
 have hlen:(aH iY (knA x)).length=11:=by
  rw[ay];exact xu (zY.1 (show qM.all (fun x=>decide ((knA x).length=11))=true by decide+kernel) x hx)
 have hone:∀v∈aH iY (knA x),v.oneCell'=true:=by
  have:=zY.1 (show qM.all (fun x=>(aH iY (knA x)).all (·.oneCell'))=true by decide+kernel) x hx
  exact fun v hv=>zY.1 this v hv
 have eg:∀(args:Array Value) (w:World),(callFunc x.2.2.2.2 args).run Tryz.prog w= .ok (.enter x.2.2.2.2 args) w:=by
  simp only[qM,List.mem_cons,List.not_mem_nil,or_false] at hx;rcases hx with rfl|rfl|rfl|rfl|rfl<;>exact fun _ _=>rfl
 obtain⟨k,hk⟩:∃k,(x.1:Int)=k:=⟨_,rfl⟩;obtain⟨r,hr⟩:∃r,(x.2.1:Int)=r:=⟨_,rfl⟩;obtain⟨l,hl⟩:∃l,aH iY (knA x)=l:=⟨_,rfl⟩;obtain⟨R,hR⟩:∃R,ag (ky x.1 x.2.1)=R:=⟨_,rfl⟩;obtain⟨F,hFF⟩:∃F,x.2.2.2.2=F:=⟨_,rfl⟩;rw[hk,hr,hl,hR,hFF] at CO;rw[hl] at hlen hone;rw[hR,hFF] at hF;rw[hFF] at eg;rw[hk,hr];have HF:=zo hF;have HA:Hid (∀o:Obj,Below w.heap.size w (w.alloc o)):=fun o=>(zh _ _).alloc (zn _) o
 clear hx h1 h2 hG hF hk hr hl hR hFF;go_enter Tryz.func107,Tryz.ntmps107;go_upto_region 1 with fail
 have K1:Hid (Bk (w.alloc (.cells #[.int .i64 k,.int .i64 r,.int .i64 n] 174)) w.heap.size 174 [.int .i64 k,.int .i64 r,.int .i64 n]):=Bk.new w _ _;have HB:=zo (HA.out (.cells #[.int .i64 k,.int .i64 r,.int .i64 n] 174));generalize w.alloc (.cells #[.int .i64 k,.int .i64 r,.int .i64 n] 174)=W0 at K1 HB ⊢;have x0:=K1.cell 0 rfl;have x1:=K1.cell 1 rfl;have x2:=K1.cell 2 rfl;have CO1:=zo (CO.out W0 HB.out);clear CO HA;have hl12:(l++[Value.func (.func F) #[] #[]]).length=12:=by rw[zL,hlen];rfl
 have ZT:∀v∈l++[Value.func (.func F) #[] #[]],v.oneCell'=true:=fun v hv=>by
  rcases zA.1 hv with hv|hv
  ·exact hone v hv
  ·rw[zR.1 hv];rfl
 have h11:(l++[Value.func (.func F) #[] #[]])[11]? =some (.func (.func F) #[] #[]):=by rw[yR zy,hlen];rfl
 obtain⟨L,hL⟩:∃L,l++[Value.func (.func F) #[] #[]]=L:=⟨_,rfl⟩;rw[hL] at CO1 hl12 ZT h11;clear hone hlen hL
 go_upto_region 2 with (first
  |(go_at_call 175;refine CO1.mono ?_;rintro e w1 ⟨rfl,hb⟩;have HB1:=zo (HB.trans (hb.mono HB.size));have K2:=zo (K1.after hb);clear hb)
  |(refine aN rfl 275 (.tmp 3) (.tmp 9) rfl w1.heap.size 0 L rfl rfl 275 [.string ⟨#[]⟩,.string ⟨#[]⟩,.string ⟨#[]⟩,.string ⟨#[]⟩,.string ⟨#[]⟩,.string ⟨#[]⟩,.string ⟨#[]⟩,.string ⟨#[]⟩,.string ⟨#[]⟩,.int .i64 0,.int .i64 0,.nilFunc] (Bk.new w1 _ _) (by rw[hl12];kernel_rfl) (by rw[hl12];decide) ZT ?_;intro w2 hk2 hg2;have K3:=zo hk2;have HG:=zo hg2;clear hk2 hg2))
 have hB2:Hid (Below w.heap.size w w2):=(HB1.alloc HB1.size _).grown HG.out (by simp;exact Nat.le_succ_of_le HB1.size) fun q e=>by rw[← zq e];exact HB1.size
 have K4:Bk w2 w1.heap.size 275 L:=by
  have:=K3.out;rw[List.take_zero,xD,yD,hl12] at this
  simpa using this
 have y11:=K4.cell 11 h11
 have z2:w2.cell? ⟨w.heap.size,2,none⟩=some (.int .i64 n):=by
  have hlt:=K2.lt;have:Bk w2 w.heap.size 174 [.int .i64 k,.int .i64 r,.int .i64 n]:=(HG.block _ zu fun e=>by have:=zq e;omega).trans (K2.alloc _)
  exact this.cell 2 rfl
 have CF:=zo (HF.out w2 hB2.out);clear HF K1 K2 K3 K4 HB HB1 HG CO1 x0 x1 x2 hl12 ZT h11
 go_wp2_with (refine CF.mono ?_;rintro e w3 ⟨rfl,hb⟩;have HB3:=zo (hB2.trans (hb.mono hB2.size));clear hb)
 go_ret;exact⟨rfl,HB3.out⟩
def l5 (l:List Nat):List UInt8:=l.map UInt8.ofNat
def Lj (o:aG):List UInt8:=if o.1=5∨o.1=6∨o.1=7∨o.1=10 then Sb o.1.toNat (l5 (ky o.1.toNat o.2.1.toNat)) o.2.2 else l5 (opT o.1.toNat o.2.1.toNat)
theorem GU {k r:Nat}(h:(Nat.blt k 11 && (Nat.blt r 9 && (plK.contains k && !(gH (ky k r) []))))=true)(w:World)(hG:eT w):
 Calls Tryz.prog 107 #[.agg #[.int .i64 (k:Int),.int .i64 (r:Int),.int .i64 0]] w fun e w'=>e= .returned (.string ⟨(Lj (k,r,0)).toArray⟩)∧Below w.heap.size w w':=by
 simp only[Bool.and_eq_true,List.contains_iff_mem,Bool.not_eq_true'] at h;obtain⟨h1,h2,h3,h4⟩:=h
 have e:Lj ((k:Int),(r:Int),0)=l5 (opT k r):=by
  unfold Lj;rw[za]
  ·rfl
  ·simp only[plK,List.mem_cons,List.not_mem_nil,or_false] at h3;dsimp only;omega
 rw[e];exact acZ h3 (aK h2) (fun q=>by rw[q] at h4;cases h4) w hG
theorem tZ {x:Nat×Nat×Int×Int×Nat}(hx:x∈qM){n:Int}(h1:x.2.2.1≤n)(h2:n≤x.2.2.2.1)(w:World)(hG:eT w):
 Calls Tryz.prog 107 #[.agg #[.int .i64 (x.1:Int),.int .i64 (x.2.1:Int),.int .i64 n]] w fun e w'=>e= .returned (.string ⟨(Lj (x.1,x.2.1,n)).toArray⟩)∧Below w.heap.size w w':=by
 refine Xv hx h1 h2 w hG _ fun W hb=>?_
 have hW:=hG.after hb;simp only[qM,List.mem_cons,List.not_mem_nil,or_false] at hx;rcases hx with rfl|rfl|rfl|rfl|rfl
 ·exact aat _ zx n h1 h2 W hW
 ·exact aat _ zx n h1 h2 W hW
 ·exact ajB _ n h1 h2 W hW
 ·exact ajA _ n W hW
 ·exact aeY _ n h1 h2 W hW
theorem UN:∀k:Fin 11,∀r:Fin 9,plK.contains k.val=true→aP ((k.val:Int),(r.val:Int),0)=true→(Nat.blt k.val 11 && (Nat.blt r.val 9 && (plK.contains k.val && !(gH (ky k.val r.val) []))))=true:=by decide+kernel
theorem ac0 (o:aG)(hv:aP o=true)(w:World)(hG:eT w):
 Calls Tryz.prog 107 #[.agg #[.int .i64 o.1,.int .i64 o.2.1,.int .i64 o.2.2]] w fun e w'=>e= .returned (.string ⟨(Lj o).toArray⟩)∧Below w.heap.size w w':=by
 obtain⟨k,r,n⟩:=o;have hv0:=hv;unfold aP at hv;split at hv
 ·cases hv
 ·rename_i rs lo hi hk;simp only[Bool.and_eq_true,List.contains_iff_mem,decide_eq_true_eq] at hv;obtain⟨h1,h2,h3⟩:=hv;dsimp only at hk h1 h2 h3 ⊢;unfold lC at hk;split at hk<;>first|(cases hk;done)|skip
  all_goals
   injection hk with hk
   injection hk with q1 hk
   injection hk with q2 q3
   subst q1 q2 q3;simp only[List.mem_cons,List.not_mem_nil,or_false] at h1
  case h_5=>
   rcases h1 with rfl|rfl
   ·exact tZ (x:=(5,5,_)) (.head _) h2 h3 w hG
   ·exact tZ (x:=(5,6,_)) (.tail _ (.head _)) h2 h3 w hG
  case h_6=>subst h1;exact tZ (x:=(6,0,_)) (.tail _ (.tail _ (.head _))) h2 h3 w hG
  case h_7=>subst h1;exact tZ (x:=(7,0,_)) (.tail _ (.tail _ (.tail _ (.head _)))) h2 h3 w hG
  case h_10=>subst h1;exact tZ (x:=(10,0,_)) (.tail _ (.tail _ (.tail _ (.tail _ (.head _))))) h2 h3 w hG
  all_goals
   obtain rfl:n=0:=zy;obtain⟨r,rfl⟩:=vg (show 0≤r by omega)
   have hr:r < 9:=zy
  case h_1=>exact GU (UN 1 ⟨r,hr⟩ rfl hv0) w hG
  case h_2=>exact GU (UN 2 ⟨r,hr⟩ rfl hv0) w hG
  case h_3=>exact GU (UN 3 ⟨r,hr⟩ rfl hv0) w hG
  case h_4=>exact GU (UN 4 ⟨r,hr⟩ rfl hv0) w hG
  case h_8=>exact GU (UN 8 ⟨r,hr⟩ rfl hv0) w hG
  case h_9=>exact GU (UN 9 ⟨r,hr⟩ rfl hv0) w hG
end
section
open Go.RowKit
def tkv (t:Tk):List Value:=[.int .i64 (t.kind:Int),.string ⟨t.text.toArray⟩,.int .i64 (t.n:Int),.int .i64 (t.at_:Int)]
def Gp:List Tk→List Value
 |[]=>[]
 |t::ts=>tkv t++Gp ts
theorem Pm:∀ts:List Tk,(Gp ts).length=ts.length * 4
 |[]=>rfl
 |t::ts=>by rw[Gp,zL,Pm ts,yw];simp[tkv];omega
theorem rA:∀ts us:List Tk,Gp (ts++us)=Gp ts++Gp us
 |[],us=>rfl
 |t::ts,us=>by rw[xm,Gp,rA ts us,Gp,yc]
theorem RH (t:Tk):Gp [t]=tkv t:=by simp[Gp]
theorem I5 (t:Tk):∀u∈tkv t,u.oneCell'=true:=by
 intro u hu;simp[tkv] at hu;rcases hu with rfl|rfl|rfl|rfl<;>rfl
theorem Xy:∀ts:List Tk,∀u∈Gp ts,u.oneCell'=true
 |[],u,hu=>by cases hu
 |t::ts,u,hu=>by
  rw[Gp] at hu;rcases zA.1 hu with hu|hu
  ·exact I5 t u hu
  ·exact Xy ts u hu
theorem aaK:El Tryz.prog 55 106 (.agg #[.int .i64 0,.string ⟨#[]⟩,.int .i64 0,.int .i64 0]) 4 40:=⟨Tryz.underlying55,zz,rfl,zx⟩
theorem ae7 {l:List UInt8}{k:Nat}(h:qY (l.drop k)=false):k < l.length:=by
 rcases zP k l.length with h'|h'
 ·exact h'
 ·rw[yL h'] at h
  cases h
theorem pF {w w':World}{b B:Nat}(h:w.grownBy w' (some b))(hB:B≤b)(hs:B≤w.heap.size):Below B w w':=
 ⟨h.os,h.tape,h.output,h.size,fun i hi=>h.block i zy (fun e=>by have:=zq e;omega)⟩
theorem Cm {w w':World}{B n b:Nat}{e:TypeId}{size:Nat}{v:Value}{xs:List Value}(h:w.ownsRow B e size v n xs)(hg:w.grownBy w' (some b))(hb:b < B):w'.ownsRow B e size v n xs:=
 h.kept hg (by
   cases hv:v.ownBlock with
   |none=>exact .inl rfl
   |some q=>exact .inr (fun e=>by have:=(h.lt q hv).1;have:=zq e;omega))
theorem aiy (w:World)(s:ByteArray):LX (w.alloc (.cells #[.string s,.int .i64 0,.int .i64 0,.string ⟨#[]⟩,.int .i64 0,.int .i64 0] 108)) w.heap.size s 0 ⟨0,[],0,0⟩:=yJ w _
def TA (l:List UInt8)(T ts:List Tk)(k:Nat):Prop:=∃f r,tks f (l.drop k) k=some r∧ts++r=T
theorem TA.end_ {l:List UInt8}{T ts:List Tk}{k K:Nat}(h:TA l T ts k)(hK:k+aR (l.drop k)=K)(he:qY (l.drop K)=true):ts++[⟨0,[],0,K⟩]=T:=by
 obtain⟨f,r,h,rfl⟩:=h
 cases f with
 |zero=>cases h
 |succ f=>
  unfold tks at h;rw[xI,hK,zW he] at h;rw[← zq h]
theorem TA.next {l:List UInt8}{T ts:List Tk}{k K:Nat}(h:TA l T ts k)(hK:k+aR (l.drop k)=K)(he:qY (l.drop K)=false):∃p,OQ (l.drop K) K=some p∧TA l T (ts++[p.1]) (K+p.2):=by
 obtain⟨f,r,h,rfl⟩:=h
 cases f with
 |zero=>cases h
 |succ f=>
  unfold tks at h;rw[xI,hK,za (by rw[he];simp)] at h
  split at h
  ·cases h
  ·rename_i p hp;rw[xI] at h;obtain⟨r',h',rfl⟩:=zi.1 h;exact⟨p,hp,f,r',h',zw⟩
theorem Uo (s:ByteArray)(w:World)(hlo:(s.size:Int)≤1024)(T:List Tk)(f:Nat)(hT:tks f s.data.toList 0=some T):
 Calls Tryz.prog 16 #[.string s] w fun e w'=>∃A cap,e= .returned (.tuple #[.slice A T.length cap,.int .i64 0])∧w'.ownsRow (w.heap.size+1) 106 4 (.slice A T.length cap) T.length (Gp T)∧Below w.heap.size w w':=by
 obtain⟨l,hl⟩:∃l,s.data.toList=l:=⟨_,rfl⟩;have hs:(s.size:Int)≤140737488355328:=zy;have kP:Hid (l.length=s.size):=by show _=_;rw[← hl];exact bF s
 have CB:Hid (∀(W:World) (k:Nat) (t:Tk),k≤s.size→LX W w.heap.size s k t→Calls Tryz.prog 38 #[.pointer (some ⟨w.heap.size,0,none⟩)] W fun e w'=>e= .returned (.bool (!qY (l.drop (k+aR (l.drop k)))))∧LX w' w.heap.size s (k+aR (l.drop k)) t∧W.grownBy w' (some w.heap.size)):=fun W k t h1 h2=>by
  have:=QZ w.heap.size k s t W hs h1 h2;rw[hl,xI] at this;exact this
 have CN:Hid (∀(W:World) (k:Nat) (t:Tk) (p:Tk×Nat),k < s.size→OQ (l.drop k) k=some p→LX W w.heap.size s k t→Calls Tryz.prog 39 #[.pointer (some ⟨w.heap.size,0,none⟩)] W fun e w'=>e= .returned (.int .i64 0)∧LX w' w.heap.size s (k+p.2) p.1∧W.grownBy w' (some w.heap.size)):=fun W k t p h1 h2 h3=>YS W hs h1 (by rw[hl];exact h2) h3
 have HT0:Hid (TA l T [] 0):=⟨f,T,by rw[← hl];exact hT,rfl⟩
 clear hl hT hs;go_enter Tryz.func16,Tryz.ntmps16;go_wp2
 go_loopw [5] (fun v wr=>∃k ts A cap t,v= .slice A ts.length cap∧k≤s.size∧ts.length≤k∧Hid (wr.ownsRow (w.heap.size+1) 106 4 (.slice A ts.length cap) ts.length (Gp ts))∧Hid (LX wr w.heap.size s k t)∧Hid (TA l T ts k)∧Hid (Below w.heap.size w wr)∧Hid (w.heap.size+1≤wr.heap.size)) (fun _ wr=>s.size - Q6 wr w.heap.size)
 case atStart=>
  exact⟨0,[],none,0,⟨0,[],0,0⟩,rfl,zF _,zF _,yx _ _ _ _,aiy w s,HT0.out,(zh _ _).alloc (zn _) _,by show _≤_;simp⟩
 case round=>
  obtain⟨k,ts,A,cap,t,rfl,hk,htk,hO,hX,hT,hB,hH⟩:=hrel;obtain⟨K,hK⟩:∃K,k+aR (l.drop k)=K:=⟨_,rfl⟩
  have hKs:K≤s.size:=by
   have:=BM (l.drop k);rw[zH] at this;have:=kP.out;omega
  have hkK:k≤K:=zy
  cases he:qY (l.drop K) with
  |true=>
   have HR:=zo (hT.end_ hK he)
   have CB':Hid (Calls Tryz.prog 38 #[.pointer (some ⟨w.heap.size,0,none⟩)] wr fun e w'=>e= .returned (.bool false)∧LX w' w.heap.size s K t∧wr.grownBy w' (some w.heap.size)):=by
    have:=CB.out wr k t hk hX.out;rw[hK,he] at this;exact this
   clear he hK CB
   go_wp2_with (first
    |(go_at_call 38;refine CB'.mono ?_;rintro e w1 ⟨rfl,hx,hg⟩;obtain⟨c0,c1,_⟩:=hx.cell;have X1:=zo hx;have B1:=zo (hB.trans (pF hg (zn _) (by have:=hH.out;omega)));have O1:=zo (Cm hO.out hg zy);have H1:=zo (zV hH.out hg.size);clear hx hg)
    |(at_builtin;go_must (refine bu aaK rfl (.tmp 30) (.tmp 37) rfl (w.heap.size+1) _ ts.length (Gp ts) (fun _=>True) _ 1 1 (tkv ⟨0,[],0,K⟩) rfl rfl (O1.alloc _) rfl (Rd.new _ _ _ trivial) (I5 _) (by simp only[maxLen];omega) zy (by simp;have:=H1.out;omega) ?_;intro v2 w2 hown2 hg2 NB hz2;obtain⟨A2,c2,rfl,_⟩:=bg hown2;have O2:=zo hown2;have B2:=zo ((B1.alloc B1.size _).grown hg2 (by have:=B1.size;simp;omega) (fun q hq=>by have:=(O1.lt q hq).1;omega));clear hown2 hg2 NB hz2)))
   go_ret2;obtain rfl:=HR.out;refine⟨A2,c2,by rw[zL];rfl,?_,B2.out⟩
   rw[rA,RH,zL];exact O2.out
  |false=>
   have hKl:=ae7 he;have aq5:K < s.size:=by have:=kP.out;omega
   have CB':Hid (Calls Tryz.prog 38 #[.pointer (some ⟨w.heap.size,0,none⟩)] wr fun e w'=>e= .returned (.bool true)∧LX w' w.heap.size s K t∧wr.grownBy w' (some w.heap.size)):=by
    have:=CB.out wr k t hk hX.out;rw[hK,he] at this;exact this
   obtain⟨p,ht,hR⟩:=hT.next hK he;have hp:=acY ht;have HR:=zo hR;have FJ:=zo (fun W hW=>CN.out W K t p aq5 ht hW)
   have HM:=zo hX.place
   have hKp:K+p.2≤s.size:=by
    have:=hp.2.1;rw[zH] at this;have:=kP.out;omega
   have hp1:=hp.1;obtain⟨u,hu⟩:∃u,p.1=u:=⟨_,rfl⟩;obtain⟨n,hn⟩:∃n,p.2=n:=⟨_,rfl⟩;rw[hu,hn] at FJ HR;rw[hn] at hKp hp1;clear hR;clear he hK hKl ht CB CN hp hu hn
   go_wp2_with (first
    |(go_at_call 38;refine CB'.mono ?_;rintro e w1 ⟨rfl,hx,hg⟩;have X1:=zo hx;have B1:=zo (hB.trans (pF hg (zn _) (by have:=hH.out;omega)));have O1:=zo (Cm hO.out hg zy);have H1:=zo (zV hH.out hg.size);clear hx hg)
    |(go_at_call 39;refine (FJ.out _ X1.out).mono ?_;rintro e w2 ⟨rfl,hx,hg⟩;obtain⟨c0,c1,c2,c3,c4,c5⟩:=hx.cell;have X2:=zo hx;have B2:=zo (B1.trans (pF hg (zn _) (by have:=H1.out;omega)));have O2:=zo (Cm O1.out hg zy);have H2:=zo (zV H1.out hg.size);clear hx hg)
    |(at_builtin;go_must (refine bu aaK rfl (.tmp 23) (.tmp 28) rfl (w.heap.size+1) _ ts.length (Gp ts) (fun _=>True) _ 1 1 (tkv u) rfl rfl (O2.alloc _) rfl (Rd.new _ _ _ trivial) (I5 _) (by simp only[maxLen];omega) zy (by simp;have:=H2.out;omega) ?_;intro v3 w3 hown3 hg3 Z6 hz3;obtain⟨A3,c3',rfl,_⟩:=bg hown3;have O3:=zo hown3;have X3:=zo ((X2.after ((zh _ _).alloc (zn _) _)).grown hg3 (fun e=>by have:=(O2.lt _ e.symm).1;omega));have H3:=zo (zV H2.out (zV (show _≤_ by simp) hg3.size));have B3:=zo ((B2.alloc B2.size _).grown hg3 (by have:=B2.size;simp;omega) (fun q hq=>by have:=(O2.lt q hq).1;omega));clear hown3 hg3 Z6 hz3)))
   go_round
   case rel=>
    have hlen:(ts++[u]).length=ts.length+1:=by rw[zL];rfl
    exact⟨K+n,ts++[u],A3,c3',u,by rw[hlen],hKp,by rw[hlen];omega,by rw[Hid,hlen,rA,RH];exact O3.out,X3.out,HR.out,B3.out,H3.out⟩
   case measure=>rw[X3.place,HM.out];omega
end
namespace Ex
open Go.RowKit
def Ji (x:Nat):List Nat→AV
 |[]=>.bT
 |l=>cond (Nat.ble 1000 x) (.slice (Nat.sub x 1000) 0 0 (Nat.div l.length 3) (some (Nat.div l.length 3))) (.slice x 0 0 (Nat.div l.length 3) none)
def UF (x:Nat):List Nat→List (Nat×aF)
 |[]=>[]
 |l=>cond (Nat.ble 1000 x) [(Nat.sub x 1000,.cells (opC l) 174 none)] [(x,.cells (opC l) 174 (some 3))]
def alR:List (Nat×aF)→Nat
 |(b,.cells _ _ none)::_=>b+1000
 |(b,_)::_=>b
 |[]=>0
def rtA (p o:Nat)(d:bL):Option (AV×AW)→Bool
 |some (v,W)=>aft (opV p o d (Ji (alR W.bl) d.2.2.2.2)) W.nx (UF (alR W.bl) d.2.2.2.2) bE (some (v,W))
 |none=>false
def WQ (call:aj)(g p o:Nat)(d:bL):Bool:=rtA p o d (call g (ags p o) ⟨0,[],[],bE⟩)
theorem XW {call:aj}{g p o:Nat}{d:bL}(h:WQ call g p o d=true):∃x n,call g (ags p o) ⟨0,[],[],bE⟩=some (opV p o d (Ji x d.2.2.2.2),⟨n,UF x d.2.2.2.2,[],bE⟩):=by
 unfold WQ at h
 cases hc:call g (ags p o) ⟨0,[],[],bE⟩ with
 |none=>rw[hc] at h;cases h
 |some y=>
  rw[hc] at h;exact⟨_,_,TG h⟩
end Ex
namespace Ex
open Go.RowKit Go.MapKept
def Pd (i k:Nat):Info→Bool
 |[x,y]=>(Nat.beq x.1 i && Nat.beq y.1 k) || (Nat.beq x.1 k && Nat.beq y.1 i)
 |_=>false
theorem rz {ops:Array Oper}{listed:Array Bool}{m i k:Nat}(hrl:RelB ops.size listed m)(h:Pd i k (dM (cu ops) m)=true):(∀q,q∈Region.ready .any ops listed↔q=i∨q=k)∧Region.ready .any ops listed≠[]:=by
 rw[← jV hrl];unfold Pd at h;split at h
 ·rename_i x y hx;rw[hx];simp only[Bool.or_eq_true,Bool.and_eq_true,beq_iff] at h;rcases h with⟨h1,h2⟩|⟨h1,h2⟩<;>simp[h1,h2,or_comm]
 ·cases h
def ldB (T:bH)(t:TT)(bl:List (Nat×aF)):Op→Option AV
 | .load e x=>uj T bl e (ev t x)
 |_=>none
section
variable {P:Program} {T:bH} {call ext:aj} {yl:fH} {N:Nat}
theorem SC {t:TT}{W:AW}{o:Oper}{v:AV}(h:ldB T t W.bl o.op=some v):uY P T call ext t W o=some (v,W):=by
 obtain⟨dst,op,type,pos,after,guard⟩:=o;unfold ldB at h;split at h
 ·rename_i e x heq;dsimp only at heq;subst heq;simp only[uY,q9,si,h]
 ·cases h
def rcB (_T:bH)(N:Nat)(ops:Array Oper)(z:Nat)(info:Info)(m i j k1 k2:Nat)(oi oj o1 o2:Oper):Bool:=
 oi.guard.isNone && oj.guard.isNone && o1.guard.isNone && o2.guard.isNone && mJ N oi.dst && mJ N oj.dst && mJ N o1.dst && mJ N o2.dst && oj.apart ops oi && o1.apart ops oi && o2.apart ops oi &&
 !(Nat.beq i z) && !(Nat.beq j z) && !(Nat.beq k1 z) && !(Nat.beq k2 z) &&
 Pd i k1 (dM info (dH m j)) && Pd i k2 (dM info (dH (dH m j) k1)) && P7 i (dM info (dH (dH (dH m j) k1) k2)) &&
 P7 j (dM info (dH m i)) && P7 k1 (dM info (dH (dH m i) j)) && P7 k2 (dM info (dH (dH (dH m i) j) k1)) && !(Nat.beq i j) && !(Nat.beq i k1) && !(Nat.beq i k2)
def rcA (P:Program)(T:bH)(call ext:aj)(yl:fH)(N eD:Nat)(ops:Array Oper)(z:Nat)(info:Info)(fin:gP)(n m:Nat)(t:TT)(W:AW)(ld:List Nat)(i j k1 k2:Nat)(oi oj o1 o2:Oper):Option (TT×AW×List Nat):=
 cond (rcB T N ops z info m i j k1 k2 oi oj o1 o2) (match Cz T t oj.op with
  |some (l,e,sh)=>match uY P T call ext t ⟨W.nx,W.bl,[],W.gl⟩ oi with
   |some (vi,W1)=>match qW T (dY oj.dst (iD sh W.nx) t) o1.op,qW T (dY oj.dst (iD sh W1.nx) (dY oi.dst vi t)) o1.op with
    |some (.ptr b y),some (.ptr b' y')=>match ldB T (dY o1.dst (.ptr b y) (dY oj.dst (iD sh W.nx) t)) ((W.nx,.cells l e none)::W.bl) o2.op,ldB T (dY o1.dst (.ptr b' y') (dY oj.dst (iD sh W1.nx) (dY oi.dst vi t))) ((W1.nx,.cells l e none)::W1.bl) o2.op with
     |some v2,some v2'=>cond (Nat.beq b W.nx && Nat.beq b' W1.nx && Nat.beq y y' && mM v2 && mW v2 v2')
       (lF P T call ext yl fin N eD ops z info (n - 4) (dH (dH (dH (dH m i) j) k1) k2) (dY o2.dst v2 (dY o1.dst (.ptr b' y') (dY oj.dst (iD sh W1.nx) (dY oi.dst vi t)))) ⟨W1.nx+1,(W1.nx,.cells l e none)::W1.bl,jm W1.az W.az,W1.gl⟩ ld) none
     |_,_=>none
    |_,_=>none
   |none=>none
  |none=>none) none
def Yw (i:Nat):Info→Option Nat
 |[x,y]=>cond (Nat.beq x.1 i) (some y.1) (cond (Nat.beq y.1 i) (some x.1) none)
 |_=>none
def Yg (P:Program)(T:bH)(call ext:aj)(yl:fH)(N eD:Nat)(ops:Array Oper)(z:Nat)(info:Info)(fin:gP)(n m:Nat)(t:TT)(W:AW)(ld:List Nat)(i j:Nat):Option (TT×AW×List Nat):=
 match Yw i (dM info (dH m j)) with
 |some k1=>match Yw i (dM info (dH (dH m j) k1)) with
  |some k2=>match ops[i]?,ops[j]?,ops[k1]?,ops[k2]? with
   |some oi,some oj,some o1,some o2=>cond (Pd i j (dM info m)) (cond (Nat.ble 4 n) (rcA P T call ext yl N eD ops z info fin n m t W ld i j k1 k2 oi oj o1 o2) none) none
   |_,_,_,_=>none
  |none=>none
 |none=>none
def rcF (P:Program)(T:bH)(call ext:aj)(yl:fH)(N eD:Nat)(ops:Array Oper)(z:Nat)(info:Info)(fin:gP):gP:=fun n m t W ld=>
 match dM info m with
 |[x,y]=>match Yg P T call ext yl N eD ops z info fin n m t W ld x.1 y.1 with
  |some r=>some r
  |none=>Yg P T call ext yl N eD ops z info fin n m t W ld y.1 x.1
 |_=>none
theorem Yi (hC:ai P call)(hX:dU P ext)(hY:fF P yl){eD z:Nat}{ops:Array Oper}{info:Info}{fin:gP}(hF:cB fin){n m:Nat}{t:TT}{W:AW}{ld:List Nat}{i j k1 k2:Nat}{oi oj o1 o2:Oper}{tf:TT}{Wf:AW}{dE:List Nat}
 (h:rcA P T call ext yl N eD ops z info fin n m t W ld i j k1 k2 oi oj o1 o2=some (tf,Wf,dE)):(∀b,b∈W.az→b∈Wf.az)∧∀c,c∈ld→c∈dE:=by
 unfold rcA at h
 cases hq:rcB T N ops z info m i j k1 k2 oi oj o1 o2 with
 |false=>rw[hq] at h;cases h
 |true=>
 rw[hq] at h;simp only[cond_true] at h;split at h
 case h_2=>cases h
 case h_1 l e sh _=>
 split at h
 case h_2=>cases h
 case h_1 vi W1 _=>
 split at h
 case h_2=>cases h
 case h_1 b y b' y' _ _=>
 split at h
 case h_2=>cases h
 case h_1 v2 v2' _ _=>
 generalize (Nat.beq b W.nx && Nat.beq b' W1.nx && Nat.beq y y' && mM v2 && mW v2 v2')=c at h
 cases c with
 |false=>cases h
 |true=>
  obtain⟨q1,q2⟩:=gN hC hX hY hF _ h;exact⟨fun b hb=>q1 b (ed.2 (.inr hb)),q2⟩
theorem GN {eD z:Nat}{ops:Array Oper}{info:Info}{fin:gP}{n m:Nat}{t:TT}{W:AW}{ld:List Nat}{i j:Nat}{r:TT×AW×List Nat}(h:Yg P T call ext yl N eD ops z info fin n m t W ld i j=some r):
 ∃k1 k2 oi oj o1 o2,ops[i]? =some oi∧ops[j]? =some oj∧ops[k1]? =some o1∧ops[k2]? =some o2∧Pd i j (dM info m)=true∧4≤n∧rcA P T call ext yl N eD ops z info fin n m t W ld i j k1 k2 oi oj o1 o2=some r:=by
 unfold Yg at h;split at h
 case h_2=>cases h
 case h_1 k1 _=>
 split at h
 case h_2=>cases h
 case h_1 k2 _=>
 split at h
 case h_2=>cases h
 case h_1 oi oj o1 o2 h1 h2 h3 h4=>
 cases h5:Pd i j (dM info m) with
 |false=>rw[h5] at h;cases h
 |true=>
 cases h6:Nat.ble 4 n with
 |false=>rw[h5,h6] at h;cases h
 |true=>
 rw[h5,h6] at h;exact⟨k1,k2,oi,oj,o1,o2,h1,h2,h3,h4,rfl,zk h6,h⟩
theorem Mr {eD z:Nat}{ops:Array Oper}{info:Info}{fin:gP}{n m:Nat}{t:TT}{W:AW}{ld:List Nat}{r:TT×AW×List Nat}(h:rcF P T call ext yl N eD ops z info fin n m t W ld=some r):
 ∃i j,Yg P T call ext yl N eD ops z info fin n m t W ld i j=some r:=by
 unfold rcF at h;split at h
 case h_2=>cases h
 case h_1 x y _=>
 split at h
 ·rename_i r' hr;obtain rfl:=zq h;exact⟨_,_,hr⟩
 ·exact⟨_,_,h⟩
theorem Yh (hC:ai P call)(hX:dU P ext)(hY:fF P yl){eD z:Nat}{ops:Array Oper}{info:Info}{fin:gP}(hF:cB fin):cB (rcF P T call ext yl N eD ops z info fin):=fun n m t W ld tf Wf dE h=>by
 obtain⟨i,j,h⟩:=Mr h;obtain⟨k1,k2,oi,oj,o1,o2,_,_,_,_,_,_,h⟩:=GN h;exact Yi hC hX hY hF h
section
variable (hT:aZ P T) (hC:ai P call) (hX:dU P ext) (hY:fF P yl) {w0:World} {dw:Env} {Ws:AW} {ws:World} (hws:aJ w0 dw Ws ws) (hm0:Ws.az=[]) {ops:Array Oper} (hsel:Region.noSelect ops=true) (hnd:∀(j:Nat) (o:Oper),ops[j]? =some o→∀c,o.op≠ .defer c) {z:Nat} {rb:Option Nat} {Q:Act→World→Prop} {tf:TT} {Wf:AW} {dE:List Nat}
 (hld:∀c,c∈dE→c < Ws.nx∧(au c Ws.bl).isSome=true) (hno:∀c,c∈dE→c ∉ Wf.az) (hz:ZOk ops z)
 (hQ:ops.size≤z→∀ρ' a' w',Post w0 dw Ws ws ρ' Wf w'→aS ρ' Wf.nx N tf a'→Q a' w')
 (hZ:∀n listed m ρ' a' w',RelB ops.size listed m→kG m z ops.size=true→z∈Region.ready .any ops listed→Post w0 dw Ws ws ρ' Wf w'→aS ρ' Wf.nx N tf a'→bD P .any ops (qa Q) (bW dw ws Ws.gl dE) z rb (n+1) listed a' w')
include hT hC hX hY hws hm0 hsel hnd hld hno hz hQ hZ
theorem ads {fin:gP}(hF:cB fin)(hfin:nZ P N ops z w0 dw Ws ws Q tf Wf dE rb fin){n m:Nat}{t:TT}{W:AW}{ld:List Nat}{i j k1 k2:Nat}{oi oj o1 o2:Oper}(hoi:ops[i]? =some oi)(hoj:ops[j]? =some oj)(ho1:ops[k1]? =some o1)(ho2:ops[k2]? =some o2)(hn:4≤n)
 (h:rcA P T call ext yl N Ws.nx ops z (cu ops) fin n m t W ld i j k1 k2 oi oj o1 o2=some (tf,Wf,dE)) {listed:Array Bool} {ρ:Env} {a:Act} {w:World} (hrl:RelB ops.size listed m) (hzu:tb m z=false) (hrd:∀k,k∈Region.ready .any ops listed↔k=i∨k=j) (hne:Region.ready .any ops listed≠[]) (ht:aS ρ W.nx N t a) (hp:Post w0 dw Ws ws ρ W w):
 bD P .any ops (qa Q) (bW dw ws Ws.gl dE) z rb n listed a w:=by
 unfold rcA at h
 cases hq:rcB T N ops z (cu ops) m i j k1 k2 oi oj o1 o2 with
 |false=>rw[hq] at h;cases h
 |true=>
 rw[hq] at h;simp only[cond_true] at h;split at h
 case h_2=>cases h
 case h_1 l e sh hal=>
 split at h
 case h_2=>cases h
 case h_1 vi W1 hv=>
 split at h
 case h_2=>cases h
 case h_1 b y b' y' hB1 hA1=>
 split at h
 case h_2=>cases h
 case h_1 v2 v2' hB2 hA2=>
 cases hc:(Nat.beq b W.nx && Nat.beq b' W1.nx && Nat.beq y y' && mM v2 && mW v2 v2') with
 |false=>rw[hc] at h;cases h
 |true=>
 rw[hc] at h;simp only[cond_true] at h;simp only[Bool.and_eq_true,beq_iff] at hc;obtain⟨⟨⟨⟨rfl,rfl⟩,rfl⟩,am4⟩,aqn⟩:=hc;obtain rfl:=lH aqn;unfold rcB at hq;simp only[Bool.and_eq_true,Bool.not_eq_true',Option.isNone_iff_eq_none] at hq;obtain⟨⟨⟨⟨⟨⟨⟨⟨⟨⟨⟨⟨⟨⟨⟨⟨⟨⟨⟨⟨⟨⟨⟨hgi,hgj⟩,hg1⟩,hg2⟩,hdi⟩,hdj⟩,hd1⟩,hd2⟩,aqZ⟩,aq0⟩,ND⟩,hiz⟩,hjz⟩,h1z⟩,h2z⟩,hr1⟩,hr2⟩,hr3⟩,hs1⟩,hs2⟩,hs3⟩,hij⟩,hi1⟩,hi2⟩:=hq;have nb:∀{x y:Nat},Nat.beq x y=false→x≠y:=fun hh e=>by rw[(beq_iff _ _).2 e] at hh;cases hh
 have hiz:=nb hiz;have hjz:=nb hjz;have h1z:=nb h1z;have h2z:=nb h2z;have hij:=nb hij;have hi1:=nb hi1;have hi2:=nb hi2;obtain⟨aj1,aj2,aj3⟩:=wY aqZ;obtain⟨a11,a12,a13⟩:=wY aq0;obtain⟨a21,a22,a23⟩:=wY ND;obtain⟨n',rfl⟩:∃n',n=n'+4:=⟨n - 4,zy⟩;rw[show n'+4 - 4=n' by omega] at h
 have hli:i < ops.size:=(zT.1 hoi).1;have hlj:j < ops.size:=(zT.1 hoj).1;have hl1:k1 < ops.size:=(zT.1 ho1).1;have hl2:k2 < ops.size:=(zT.1 ho2).1;have hw:∀{o:Oper},o.guard=none→∀a:Act,Region.wanted o (yielded ops a.tmps)=true:=fun hg a=>by unfold Region.wanted;rw[hg]
 have htt:aS ρ (AW.mk W.nx W.bl [] W.gl).nx N t a:=ht;have hfm:=hp.rep.bK;have hm2:=(gN hC hX hY hF _ h).1;have iR:∀ρ' W' w',Post w0 dw Ws ws ρ' W' w'→(∀b,b∈W'.az→b∈Wf.az)→bW dw ws Ws.gl dE w':=fun ρ' W' w' hp' hmm=>hp'.stand hws hm0 hld fun c hc hcm=>hno c hc (hmm c hcm)
 have hWf:∀b,b∈W.az→b∈Wf.az:=fun b hb=>hm2 b (ed.2 (.inr hb))
 have aeF:oks W.nx l:=abB (_P:=P) hal ht;obtain⟨_,_,kc,_⟩:=Fj hal
 have hbj:∀k' W',Cz T k' oj.op=some (l,e,sh)→uY P T call ext k' W' oj=some (iD sh W'.nx,W'.push (.cells l e none)):=fun k' W' hk=>by
  unfold uY;rw[kc];exact uS hk W'
 have aq1:Cz T (dY oi.dst vi t) oj.op=some (l,e,sh):=by rw[KS hdi aj3];exact hal
 let Wi:AW:=⟨W1.nx,W1.bl,jm W1.az W.az,W1.gl⟩
 let WA:AW:=⟨W1.nx+1,(W1.nx,.cells l e none)::W1.bl,jm W1.az W.az,W1.gl⟩
 let t1:=dY oi.dst vi t
 let t2:=dY oj.dst (iD sh W1.nx) t1
 let t3:=dY o1.dst (.ptr W1.nx y) t2
 let t4:=dY o2.dst v2 t3
 let La:=listed.setIfInBounds i true
 let Lb:=La.setIfInBounds j true
 let Lc:=Lb.setIfInBounds k1 true
 let Ld:=Lc.setIfInBounds k2 true
 have hra:RelB ops.size La (dH m i):=hrl.set hli;have hrb:RelB ops.size Lb (dH (dH m i) j):=hra.set hlj;have hrc:RelB ops.size Lc (dH (dH (dH m i) j) k1):=hrb.set hl1;have amM:RelB ops.size Ld (dH (dH (dH (dH m i) j) k1) k2):=hrc.set hl2
 have alW:∀ρ' a' w',aS ρ' WA.nx N t4 a'→Post w0 dw Ws ws ρ' WA w'→bD P .any ops (qa Q) (bW dw ws Ws.gl dE) z rb n' Ld a' w':=fun ρ' a' w' ht' hp'=>by
  rw[jD _ _ amM] at h;refine dB hT hC hX hY hF hws hm0 hsel hnd hld hno hz hfin hQ hZ n' amM ?_ h ht' hp';rw[fO,fO,fO,fO,hzu];simp[hiz,hjz,h1z,h2z]
 have alV:∀ρ' a' w',aS ρ' WA.nx N t3 a'→Post w0 dw Ws ws ρ' WA w'→bD P .any ops (qa Q) (bW dw ws Ws.gl dE) z rb (n'+1) Lc a' w':=fun ρ' a' w' ht' hp'=>by
  refine dG (kr hrc hs3) zw fun q hq=>?_
  obtain rfl:k2=q:=by simpa [eq_comm] using hq
  unfold wpOpIn;simp only[ho2,hw hg2,if_true];have hop:uY P T call ext t3 ⟨WA.nx,WA.bl,[],WA.gl⟩ o2=some (v2,⟨WA.nx,WA.bl,[],WA.gl⟩):=SC hA2;refine (ig (W:=⟨WA.nx,WA.bl,[],WA.gl⟩) hT hC hX ht' hp'.rep.bK hop).wpIn (hnd _ _ ho2) fun dC w2 hp2 Ca=>?_
  have nW:=hp'.trans hp2.iW;exact⟨fun _=>iR _ _ _ nW hm2,alW dC _ w2 ((ht'.mono hp2.ext hp2.nx).put hd2 Ca) nW⟩
 have alU:∀ρ' a' w',aS ρ' WA.nx N t2 a'→Post w0 dw Ws ws ρ' WA w'→bD P .any ops (qa Q) (bW dw ws Ws.gl dE) z rb (n'+2) Lb a' w':=fun ρ' a' w' ht' hp'=>by
  refine dG (kr hrb hs2) zw fun q hq=>?_
  obtain rfl:k1=q:=by simpa [eq_comm] using hq
  unfold wpOpIn;simp only[ho1,hw hg1,if_true];obtain⟨q1,q2⟩:=mh (P:=P) hT ht' hA1 w';refine Does.wpIn (.inl ⟨ρ',w',.inl q1,Post.refl hp'.rep,q2⟩) (hnd _ _ ho1) fun dC w2 hp2 Ca=>?_
  have nW:=hp'.trans hp2;exact⟨fun _=>iR _ _ _ nW hm2,alV dC _ w2 ((ht'.mono hp2.ext hp2.nx).put hd1 Ca) nW⟩
 have XF:∀(gz:Env) (w1:World) (a1:Act) (x:Nat),execOp a1.eval oi=execOp a.eval oi→Post w0 dw Ws ws gz W w1→aS gz W.nx N t a→Float ws w1 gz W x l e→∀(K:Act→World→Prop),
  (∀Fy w3 vv,Post w0 dw Ws ws Fy WA w3→Fy.blk W1.nx=x→aS Fy WA.nx N t2 ((a.put oi.dst vv).put oj.dst (qm sh x))→K (a1.put oi.dst vv) w3)→wpOpIn (fw rb) 0 P ops (qa Q) i K a1 w1:=fun gz w1 a1 x hex hp1 ht1 hfl K hK=>by
  unfold wpOpIn;simp only[hoi,hw hgi,if_true];have aiQ:aS gz (AW.mk W.nx W.bl [] W.gl).nx N t a:=ht1;refine ((ig hT hC hX aiQ hp1.rep.bK hv).act hex).wpIn (hnd _ _ hoi) fun dC w2 hp2 Ca=>?_
  have nW:Post w0 dw Ws ws dC Wi w2:=hp1.trans hp2.iW;have hf2:Float ws w2 dC Wi x l e:=have hs:=hfl.step hp1.rep hp2;⟨hs.lo,hs.hi,hs.row,hs.no,hs.ok⟩;have hpd:=hf2.done hws nW;have ev:cv (dC.up Wi.nx x 0) (iD sh W1.nx)=qm sh x:=by rw[Aa,Env.aM]
  have hti:aS dC Wi.nx N t1 (a.put oi.dst (cv dC vi)):=(ht1.mono hp2.ext hp2.nx).put hdi Ca;have htd:=(hti.mono (Env.gu dC Wi.nx x 0) (yY _)).put hdj (v:=iD sh W1.nx) (Jf (zS _));rw[ev] at htd;exact hK _ w2 _ hpd (Env.aM _ _ _ _) htd
 refine dG rfl hne fun q hqr=>?_
 rcases (hrd q).1 hqr with hqi|hqi<;>have hqi:=hqi.symm<;>subst hqi
 ·
  unfold wpOpIn;simp only[hoi,hw hgi,if_true];refine (ig hT hC hX htt hfm hv).wpIn (hnd _ _ hoi) fun gz w1 hp1 Ca=>?_
  have nW:Post w0 dw Ws ws gz Wi w1:=hp.trans hp1.iW;have hti:aS gz Wi.nx N t1 (a.put oi.dst (cv gz vi)):=(ht.mono hp1.ext hp1.nx).put hdi Ca;refine⟨fun _=>iR _ _ _ nW hm2,dG (kr hra hs1) zw fun q hq=>?_⟩
  obtain rfl:j=q:=by simpa [eq_comm] using hq
  unfold wpOpIn;simp only[hoj,hw hgj,if_true];refine (ig (W:=⟨Wi.nx,Wi.bl,[],Wi.gl⟩) hT hC hX hti nW.rep.bK (hbj _ _ aq1)).wpIn (hnd _ _ hoj) fun dC w2 hp2 aqm=>?_
  have amR:=nW.trans hp2.iW;exact⟨fun _=>iR _ _ _ amR hm2,alU dC _ w2 ((hti.mono hp2.ext hp2.nx).put hdj aqm) amR⟩
 ·
  unfold wpOpIn;simp only[hoj,hw hgj,if_true];obtain⟨gz,w1,q1,q2,q3⟩:=uH hT htt hfm (uS hal ⟨W.nx,W.bl,[],W.gl⟩);have q1:=q1.resolve_right (fun h=>by cases sh<;>cases h.2)
  have hT0:∀i,¬fV ρ ⟨W.nx,W.bl,[],W.gl⟩ (AW.push ⟨W.nx,W.bl,[],W.gl⟩ (.cells l e none)) i:=fun i ⟨b,q,_,_⟩=>by cases q
  have hg1:Gr w w1 (fun _=>False):=q2.gr.mono fun i _ h=>hT0 i h
  have hpq:=hp.trans (hp.rep.quiet hg1);have hk1:au W.nx (AW.push ⟨W.nx,W.bl,[],W.gl⟩ (.cells l e none)).bl=some (.cells l e none):=aA _ _ _
  have hxw:w.heap.size≤gz.blk W.nx:=by
   rcases zP (gz.blk W.nx) w.heap.size with hh|hh
   ·exact (hT0 _ (q2.fresh W.nx (zn _) (zS _) hh)).elim
   ·exact hh
  have hfl:Float ws w1 ρ W (gz.blk W.nx) l e:=by
   refine⟨zV hp.gr.size hxw,(q2.rep.ok _ _ hk1).2.2.2,?_,fun b k hb hx=>?_,aeF⟩
   ·have:=q2.rep.rep _ _ hk1;have hE:Ext W.nx ρ gz:=q2.ext;rw[← cz hE l aeF];exact this
   ·have:=(hp.rep.ok b k hb).2.2.2;omega
  refine⟨fun _ _=>trivial,?_⟩
  rw[xO _ _ _ (hnd _ _ hoj),q1,Aa];refine⟨fun _=>iR _ _ _ hpq hWf,?_⟩
  generalize hx:gz.blk W.nx=x at hfl;clear hx q1 q2 q3 hk1 hxw hg1;have hLj:RelB ops.size (listed.setIfInBounds j true) (dH m j):=hrl.set hlj;have am6:execOp (a.put oj.dst (qm sh x)).eval oi=execOp a.eval oi:=wK (ops:=ops) oi (xS hsel i oi · · hoi) a oj.dst (qm sh x) fun d hd=>aj1 d hd
  have cji:∀u,(a.put oj.dst (qm sh x)).put oi.dst u=(a.put oi.dst u).put oj.dst (qm sh x):=fun u=>xU a _ _ aj2
  obtain⟨aqT,aqU⟩:=rz hLj hr1;refine dG rfl aqU fun q hqr=>?_
  rcases (aqT q).1 hqr with hqi|hqi<;>have hqi:=hqi.symm<;>subst hqi
  ·
   refine XF ρ w1 _ x am6 hpq ht hfl _ fun Fy w3 vv hp3 _ ht3=>?_
   refine⟨fun _=>iR _ _ _ hp3 hm2,?_⟩
   rw[cji,yK _ _ hij.symm];exact alU Fy _ w3 ht3 hp3
  ·
   unfold wpOpIn;simp only[ho1,hw hg1,if_true];have hpd:=hfl.done hws hpq;have ev:cv (ρ.up W.nx x 0) (iD sh W.nx)=qm sh x:=by rw[Aa,Env.aM]
   have htB:aS (ρ.up W.nx x 0) (W.nx+1) N (dY oj.dst (iD sh W.nx) t) (a.put oj.dst (qm sh x)):=by
    have:=(ht.mono (Env.gu ρ W.nx x 0) (yY W.nx)).put hdj (v:=iD sh W.nx) (Jf (zS _));rwa [ev] at this
   obtain⟨g1,g2⟩:=mh (P:=P) hT htB hB1 w1;have epv:cv (ρ.up W.nx x 0) (.ptr W.nx y)= .pointer (some ⟨x,y,none⟩):=by simp only[cv,Env.aM]
   rw[epv] at g1;refine⟨fun _ _=>trivial,?_⟩
   rw[xO _ _ _ (hnd _ _ ho1),g1];refine⟨fun _=>iR _ _ _ hpq hWf,?_⟩
   have htC:aS (ρ.up W.nx x 0) (W.nx+1) N (dY o1.dst (.ptr W.nx y) (dY oj.dst (iD sh W.nx) t)) ((a.put oj.dst (qm sh x)).put o1.dst (.pointer (some ⟨x,y,none⟩))):=by
    have:=htB.put hd1 (v:=.ptr W.nx y) g2;rwa [epv] at this
   have hLc:RelB ops.size ((listed.setIfInBounds j true).setIfInBounds k1 true) (dH (dH m j) k1):=hLj.set hl1
   have am8:execOp ((a.put oj.dst (qm sh x)).put o1.dst (.pointer (some ⟨x,y,none⟩))).eval oi=execOp a.eval oi:=
    (wK (ops:=ops) oi (xS hsel i oi · · hoi) _ o1.dst _ fun d hd=>a11 d hd).trans am6
   have ev1:∀Fy:Env,Fy.blk W1.nx=x→cv Fy (.ptr W1.nx y)= .pointer (some ⟨x,y,none⟩):=fun Fy h3=>by simp only[cv,h3]
   have lc1:((listed.setIfInBounds j true).setIfInBounds k1 true).setIfInBounds i true=Lc:=by
    show _=((listed.setIfInBounds i true).setIfInBounds j true).setIfInBounds k1 true;rw[yK (xs:=listed.setIfInBounds j true) _ _ hi1.symm,yK (xs:=listed) _ _ hij.symm]
   have c1i:∀u,((a.put oj.dst (qm sh x)).put o1.dst (.pointer (some ⟨x,y,none⟩))).put oi.dst u=((a.put oi.dst u).put oj.dst (qm sh x)).put o1.dst (.pointer (some ⟨x,y,none⟩)):=fun u=>by
    rw[xU _ _ _ a12,cji]
   obtain⟨aqR,aqS⟩:=rz hLc hr2;refine dG rfl aqS fun q hqr=>?_
   rcases (aqR q).1 hqr with hqi|hqi<;>have hqi:=hqi.symm<;>subst hqi
   ·
    refine XF ρ w1 _ x am8 hpq ht hfl _ fun Fy w3 vv hp3 hb3 ht3=>?_
    refine⟨fun _=>iR _ _ _ hp3 hm2,?_⟩
    rw[c1i,lc1];have:=ht3.put hd1 (v:=.ptr W1.nx y) (zS _);rw[ev1 Fy hb3] at this;exact alV Fy _ w3 this hp3
   ·
    unfold wpOpIn;simp only[ho2,hw hg2,if_true];have aqy:uY P T call ext (dY o1.dst (.ptr W.nx y) (dY oj.dst (iD sh W.nx) t)) ⟨W.nx+1,(W.nx,.cells l e none)::W.bl,[],W.gl⟩ o2=some (v2,⟨W.nx+1,(W.nx,.cells l e none)::W.bl,[],W.gl⟩):=SC hB2;refine (ig (W:=⟨W.nx+1,(W.nx,.cells l e none)::W.bl,[],W.gl⟩) hT hC hX htC hpd.rep.bK aqy).wpIn (hnd _ _ ho2) fun ρ4 w4 hp4 auE=>?_
    have hT4:∀i,¬fV (ρ.up W.nx x 0) ⟨W.nx+1,(W.nx,.cells l e none)::W.bl,[],W.gl⟩ ⟨W.nx+1,(W.nx,.cells l e none)::W.bl,[],W.gl⟩ i:=fun i ⟨b,q,_,_⟩=>by cases q
    have hg4:Gr w1 w4 (fun _=>False):=hp4.gr.mono fun i _ h=>hT4 i h
    have amQ:=hpq.trans (hpq.rep.quiet hg4);have aqL:Float ws w4 ρ W x l e:=⟨hfl.lo,zZ hfl.hi hg4.size,(hg4.block x hfl.hi id).trans hfl.row,hfl.no,hfl.ok⟩;refine⟨fun _=>iR _ _ _ amQ hWf,?_⟩
    have hLd:RelB ops.size (((listed.setIfInBounds j true).setIfInBounds k1 true).setIfInBounds k2 true) (dH (dH (dH m j) k1) k2):=hLc.set hl2
    have aqO:execOp (((a.put oj.dst (qm sh x)).put o1.dst (.pointer (some ⟨x,y,none⟩))).put o2.dst (cv ρ4 v2)).eval oi=execOp a.eval oi:=
     (wK (ops:=ops) oi (xS hsel i oi · · hoi) _ o2.dst _ fun d hd=>a21 d hd).trans am8
    refine dG (kr hLd hr3) zw fun q hq=>?_
    obtain rfl:i=q:=by simpa [eq_comm] using hq
    refine XF ρ w4 _ x aqO amQ ht aqL _ fun Fy w3 vv hp3 hb3 ht3=>?_
    refine⟨fun _=>iR _ _ _ hp3 hm2,?_⟩
    have lc2:(((listed.setIfInBounds j true).setIfInBounds k1 true).setIfInBounds k2 true).setIfInBounds i true=Ld:=by
     show _=Lc.setIfInBounds k2 true;rw[yK (xs:=(listed.setIfInBounds j true).setIfInBounds k1 true) _ _ hi2.symm,lc1]
    rw[lc2,xU _ _ _ a22,c1i];have h5:=ht3.put hd1 (v:=.ptr W1.nx y) (zS _);rw[ev1 Fy hb3] at h5;have h6:=h5.put hd2 (v:=v2) (mK _ v2 am4);rw[show cv Fy v2=cv ρ4 v2 from iV (NU ρ4 Fy) v2 (mK 0 v2 am4)] at h6
    exact alW Fy _ w3 h6 hp3
theorem adr {fin:gP}(hF:cB fin)(hfin:nZ P N ops z w0 dw Ws ws Q tf Wf dE rb fin):nZ P N ops z w0 dw Ws ws Q tf Wf dE rb (rcF P T call ext yl N Ws.nx ops z (cu ops) fin):=fun n m listed t W ld ρ a w hrl hzu h ht hp=>by
 obtain⟨i,j,h⟩:=Mr h;obtain⟨k1,k2,oi,oj,o1,o2,h1,h2,h3,h4,h5,hn,h⟩:=GN h;obtain⟨q1,q2⟩:=rz hrl h5;exact ads hT hC hX hY hws hm0 hsel hnd hld hno hz hQ hZ hF hfin h1 h2 h3 h4 hn h hrl hzu q1 q2 ht hp
end
end
def aap (P:Program)(T:bH)(call ext:aj)(yl:fH)(N eD:Nat)(ops:Array Oper)(z:Nat)(info:Info):Nat→gP
 |0=>VS P T call ext yl N eD ops z info 3
 |d+1=>orF (VS P T call ext yl N eD ops z info 3) (rcF P T call ext yl N eD ops z info (aap P T call ext yl N eD ops z info d))
def Kw (P:Program)(T:bH)(ext call:aj)(yl:fH)(N:Nat):qc:=fun ops t W=>
 if Region.noSelect ops.toArray && JJ ops.toArray then
  match lF P T call ext yl (aap P T call ext yl N W.nx ops.toArray (Gd ops.toArray) (cu ops.toArray) 2) N W.nx ops.toArray (Gd ops.toArray) (cu ops.toArray) ops.length 0 t ⟨W.nx,W.bl,[],W.gl⟩ [] with
  |some (t',W',ld)=>if ld.all fun b=>!iN b W'.az && Nat.blt b W.nx && (au b W.bl).isSome then
    match Hr P T ext call yl N ops (Gd ops.toArray) t' W' with
    |some (t2,W2)=>some (t2,⟨W2.nx,W2.bl,jm W2.az W.az,W2.gl⟩)
    |none=>none
   else none
  |none=>none
 else none
section
variable {P:Program} {T:bH} {call ext:aj} {yl:fH} {N:Nat}
theorem AO (hC:ai P call)(hX:dU P ext)(hY:fF P yl){eD z:Nat}{ops:Array Oper}{info:Info}:∀d,cB (aap P T call ext yl N eD ops z info d)
 |0=>AL hC hX hY 3
 |d+1=>MK (AL hC hX hY 3) (Yh hC hX hY (AO hC hX hY d))
section
variable (hT:aZ P T) (hC:ai P call) (hX:dU P ext) (hY:fF P yl) {w0:World} {dw:Env} {Ws:AW} {ws:World} (hws:aJ w0 dw Ws ws) (hm0:Ws.az=[]) {ops:Array Oper} (hsel:Region.noSelect ops=true) (hnd:∀(j:Nat) (o:Oper),ops[j]? =some o→∀c,o.op≠ .defer c) {z:Nat} {rb:Option Nat} {Q:Act→World→Prop} {tf:TT} {Wf:AW} {dE:List Nat}
 (hld:∀c,c∈dE→c < Ws.nx∧(au c Ws.bl).isSome=true) (hno:∀c,c∈dE→c ∉ Wf.az) (hz:ZOk ops z)
 (hQ:ops.size≤z→∀ρ' a' w',Post w0 dw Ws ws ρ' Wf w'→aS ρ' Wf.nx N tf a'→Q a' w')
 (hZ:∀n listed m ρ' a' w',RelB ops.size listed m→kG m z ops.size=true→z∈Region.ready .any ops listed→Post w0 dw Ws ws ρ' Wf w'→aS ρ' Wf.nx N tf a'→bD P .any ops (qa Q) (bW dw ws Ws.gl dE) z rb (n+1) listed a' w')
include hT hC hX hY hws hm0 hsel hnd hld hno hz hQ hZ
theorem NN:∀d,nZ P N ops z w0 dw Ws ws Q tf Wf dE rb (aap P T call ext yl N Ws.nx ops z (cu ops) d)
 |0=>EJ hT hC hX hY hws hm0 hsel hnd hld hno hz hQ hZ 3
 |d+1=>fun n m listed t W ld ρ a w hrl hzu h ht hp=>by
  unfold aap orF at h;split at h
  ·rename_i r hr;obtain rfl:=zq h;exact EJ hT hC hX hY hws hm0 hsel hnd hld hno hz hQ hZ 3 _ _ _ _ _ _ _ _ _ hrl hzu hr ht hp
  ·exact adr hT hC hX hY hws hm0 hsel hnd hld hno hz hQ hZ (AO hC hX hY d) (NN d) _ _ _ _ _ _ _ _ _ hrl hzu h ht hp
end
theorem V6 (hM:P.follows .mixedOrders=true)(hT:aZ P T)(hC:ai P call)(hX:dU P ext)(hY:fF P yl):Le P N (Kw P T ext call yl N):=fun ro id ops t W tf Wf h w0 ρ a w Q hro ht hW hQ=>by
 unfold Kw at h;rw[vM] at h;split at h
 case isFalse=>cases h
 case isTrue hsel=>
 simp only[Bool.and_eq_true] at hsel;split at h
 case h_2=>cases h
 case h_1 t' W' ld hl=>
 split at h
 case isFalse=>cases h
 case isTrue hall=>
 split at h
 case h_2=>cases h
 case h_1 t2 W2 hlast=>
 obtain⟨rfl,rfl⟩:=zm (zq h);have hld:=zY.1 hall;have h0:Post w0 ρ ⟨W.nx,W.bl,[],W.gl⟩ w ρ ⟨W.nx,W.bl,[],W.gl⟩ { w with drawn:=w.drawn+1}:=hW.bK.quiet ⟨rfl,rfl,rfl,zn _,fun _ _ _=>rfl⟩
 rw[yZ,jD _ _ (RelB.start ops.size)] at hl;have hnd:=ug hsel.2
 have hany:wpAnyIn (fw (ro.map ρ.blk)) 0 P .any ops (qa fun a' w'=>Q .normal a' w') ops.size (Array.replicate ops.size false) a { w with drawn:=w.drawn+1}:=by
  refine ni (S:=bW ρ w W.gl ld) (z:=Gd ops) _ _ _ _ ?_
  have Ej:∀c,c∈ld→c < W.nx∧(au c W.bl).isSome=true:=fun c hc=>by
   have:=hld c hc;simp only[Bool.and_eq_true] at this;exact⟨aK this.1.2,this.2⟩
  have hno':∀c,c∈ld→c ∉ W'.az:=fun c hc=>by
   have:=hld c hc;simp only[Bool.and_eq_true,Bool.not_eq_true'] at this;exact nH this.1.1
  have hz:ZOk ops (Gd ops):=Lv ops
  have hQ0:ops.size≤Gd ops→∀ρ' a' w',Post w0 ρ ⟨W.nx,W.bl,[],W.gl⟩ w ρ' W' w'→aS ρ' W'.nx N t' a'→Q .normal a' w':=fun hge ρ' a' w' hp ht'=>by
   unfold Hr at hlast;rw[yZ,yF hge] at hlast;simp only[cond_true] at hlast;obtain⟨rfl,rfl⟩:=zm (zq hlast);exact hQ ρ' a' w' hp.iW ht'
  have hZ0:∀n listed m ρ' a' w',RelB ops.size listed m→kG m (Gd ops) ops.size=true→Gd ops∈Region.ready .any ops listed→Post w0 ρ ⟨W.nx,W.bl,[],W.gl⟩ w ρ' W' w'→aS ρ' W'.nx N t' a'→bD P .any ops (qa fun a' w'=>Q .normal a' w') (bW ρ w W.gl ld) (Gd ops) (ro.map ρ.blk) (n+1) listed a' w':=fun n listed m ρ' a' w' hrl rU hr hp ht'=>
   Nl hT hC hX hY hnd hlast (kg hr) ht' hp.rep (fun dC a2 w2 hp2 ht2=>hQ dC a2 w2 (hp.trans hp2).iW ht2) hrl rU hr
  exact dB hT hC hX hY (AO hC hX hY 2) (Ws:=⟨W.nx,W.bl,[],W.gl⟩) hW.bK rfl hsel.1 hnd Ej hno' hz (NN hT hC hX hY (Ws:=⟨W.nx,W.bl,[],W.gl⟩) hW.bK rfl hsel.1 hnd Ej hno' hz hQ0 hZ0 2) hQ0 hZ0 ops.size (RelB.start ops.size) (by rw[sH];exact Nat.zero_testBit _) hl ht h0
 have aiR:(Code.region id ops true).wpIn (fw (ro.map ρ.blk)) 0 P (qa fun a' w'=>Q .normal a' w') a w:=wpIn_region_any hM hany
 refine wpIn_mono aiR fun e a' w' hq=>?_
 cases e<;>first|exact hq|exact hq.elim
end
noncomputable def Jh (S:aj):aj:=(rP Tryz.prog Tu (Kw Tryz.prog Tu FU) Ft S FU Ta).call
theorem Zb (hM:Tryz.prog.follows .mixedOrders=true){S:aj}(hS:ai Tryz.prog S)(n:Nat):Bg Tryz.prog (rP Tryz.prog Tu (Kw Tryz.prog Tu FU) Ft S FU n):=
 JO TH ag2 hS Cw (fun _ _ _ hC hY=>V6 hM TH hC Cw hY) n
theorem RU (hM:Tryz.prog.follows .mixedOrders=true){S:aj}(hS:ai Tryz.prog S):ai Tryz.prog (Jh S):=(Zb hM hS Ta).call
end Ex
end Go.Proofs.YtpjjgpjhpobkiaaGreatDoor
namespace Go.Proofs
open Go.Shelf Go.RowKit Go.Lib
theorem Tryz.SE:Go.Proofs.Lays.n240 Tryz.prog Tryz.jB:=by constructor<;>first|kernel_rfl|(intro w;kernel_rfl)|(intro w;rfl)|decide|(constructor<;>first|kernel_rfl|(intro w;rfl)|decide)
theorem Tryz.oh:Builder.X72 Tryz.prog Tryz.jB:=by constructor<;>first|kernel_rfl|(intro w;kernel_rfl)|(intro w;rfl)|decide|(constructor<;>first|kernel_rfl|(intro w;rfl)|decide)
theorem Tryz.aeh:Go.Proofs.Lays.n169 Tryz.prog Tryz.jB:=by constructor<;>first|kernel_rfl|(intro w;kernel_rfl)|(intro w;rfl)|decide|(constructor<;>first|kernel_rfl|(intro w;rfl)|decide)
theorem Tryz.Builder_String_any_k (B b:Nat)(l:List UInt8)(w:World)(h:Lib.IsBuilderF 141 5 B b (Lib.byteCells l) w)(hBw:B≤w.heap.size):
 Calls Tryz.prog 65 #[.pointer (some ⟨b,0,none⟩)] w fun e w'=>e= .returned (.string ⟨l.toArray⟩)∧(Lib.IsBuilderF 141 5 B b (Lib.byteCells l) w'∧Below B w w'∧Lib.OthersKept 5 (some b) w w'):=Any.Builder_String_any_k Tryz.aeh Tryz.iX B b l w h hBw
end Go.Proofs
namespace Go.Proofs.YtpjjgpjhpobkiaaGreatDoor
open Go.RowKit
theorem Ag {w w':World}{base n:Nat}{e:TypeId}{size:Nat}{v:Value}{xs:List Value}{row:Option Nat}(h:w.ownsRow base e size v n xs)(hg:w.grownBy w' row)(hne:v.ownBlock=none∨v.ownBlock≠row):w'.ownsRow base e size v n xs:=
 h.kept hg hne
theorem arj:Tryz.prog.underlying 9=some .string:=Tryz.underlying9
theorem PI (w:World)(base:Nat)(ty:TypeId)(v:Value)(n:Nat)(xs:List Value)(hown:w.ownsRow base 5 1 v n xs)(s:ByteArray)(h63:n+s.size≤maxLen)(hbytes:n+s.size≤140737488355328)(hbase:base≤w.heap.size):
 ∃v' w',(Builtin.append_ #[22,9] ty #[v,.string s]).run Tryz.prog w= .ok v' w'∧w'.ownsRow base 5 1 v' (n+s.size) (xs++Lib.strCells s)∧w.grownBy w' v.ownBlock∧
  ∀q,v'.ownBlock=some q→v.ownBlock=some q∨w.heap.size≤q:=by
 obtain⟨i,hi,hz,hsz,hby⟩:=info_parts iU.info;obtain⟨v',w',hr,h2,h3,_⟩:=Lib.run_append_own_string (P:=Tryz.prog) (w:=w) base 22 9 ty 5 i Tryz.underlying22 Tryz.underlying9 hi hz hsz hby v n xs hown s h63 hbytes hbase;refine⟨v',w',hr,h2,h3,fun q hq=>?_⟩
 rcases hown.2 with⟨rfl,rfl⟩|⟨g,cap,cur,rfl,hbg,hg,hnc,hcm,hcs,htake⟩
 ·have hx:xs=[]:=yQ (by simpa using hown.1)
  subst hx;obtain⟨v2,w2,hr2,h4,_,_⟩:=Lib.run_append_own_string (P:=Tryz.prog) (w:=w) w.heap.size 22 9 ty 5 i Tryz.underlying22 Tryz.underlying9 hi hz hsz hby (.slice none 0 0) 0 [] (yx w _ _ _) s h63 hbytes (zn _);rw[hr] at hr2;injection hr2 with e1 e2
  subst e1;subst e2;exact .inr (h4.lt q hq).1
 ·have hcs':cur.size=cap:=by simpa using hcs
  by_cases hroom:n+s.size≤cap
  ·have hr2:=Lib.run_append_room_string (P:=Tryz.prog) w 22 9 ty 5 i Tryz.underlying22 Tryz.underlying9 hi hsz g n cap cur hg s hroom zy;rw[hr] at hr2;injection hr2 with e1 e2
   subst e1;exact .inl hq
  ·have holds:∀j u,xs[j]? =some u→w.cell? ((⟨g,0,none⟩:Addr).add j)=some u:=hown.cells (g:=g) rfl;have hr2:=Lib.run_append_grow_string (P:=Tryz.prog) w 22 9 ty 5 i (.int .u8 0) Tryz.underlying22 Tryz.underlying9 hi hz ⟨g,0,none⟩ n cap xs (by rw[hsz];exact hown.1) holds s zy zy (by rw[hby];exact growslice_fits zy zy)
   rw[hr] at hr2;injection hr2 with e1 e2
   subst e1;have:w.heap.size=q:=zq hq;exact .inr zy
theorem O4 {w:World}{ops:Array Oper}{rest:List Oper}{o:Oper}{a:Act}{Q:Exit→Act→World→Prop}(hgd:o.guard=none)(s0 x:Operand)
 (ho:o.op= .call { callee:=.builtin .append,args:=#[s0,x],argTypes:=#[22,9]})
 (base:Nat) (v:Value) (n:Nat) (xs:List Value) (s:ByteArray) (hs:a.eval s0=v) (hx:a.eval x= .string s) (hown:w.ownsRow base 5 1 v n xs)
 (h63:n+s.size≤maxLen) (hbytes:n+s.size≤140737488355328) (hbase:base≤w.heap.size)
 (h:∀v' w',w'.ownsRow base 5 1 v' (n+s.size) (xs++Lib.strCells s)→w.grownBy w' v.ownBlock→(∀q,v'.ownBlock=some q→v.ownBlock=some q∨w.heap.size≤q)→wpList Tryz.prog ops Q rest (a.put o.dst v') w'):wpList Tryz.prog ops Q (o::rest) a w:=
 wpList_plain hgd fun _ hK=>by
  obtain⟨v',w',hrun,h2,h3,h4⟩:=PI w base o.type v n xs hown s h63 hbytes hbase;unfold Oper.wp execOp;simp only[ho,resolve,invoke,builtin,Sem.run_bind,Sem.run_pure,Result.andThen_ok,List.map_toArray,List.map_cons,List.map_nil,hs,hx,hrun];exact hK _ _ (h v' w' h2 h3 h4)
theorem LY (s:ByteArray):Lib.strCells s=bs s.data.toList:=by simp[Lib.strCells,bs]
structure qd (w:World)(B b:Nat)(p v:Value)(l:List UInt8):Prop where
 ge:B≤b
 blk:w.heap[b]? =some (.cells #[p,v] 141 (0,0))
 pt:p= .pointer none∨p= .pointer (some ⟨b,0,none⟩)
 own:w.ownsRow B 5 1 v l.length (bs l)
structure Fr (w w':World)(B b:Nat)(v v':Value):Prop where
 bel:Below B w w'
 keep:∀i,i < w.heap.size→i≠b→some i≠v.ownBlock→w'.heap[i]? =w.heap[i]?
 at':∀q,v'.ownBlock=some q→v.ownBlock=some q∨w.heap.size≤q
section
variable {w w':World} {B b:Nat} {p v:Value} {l:List UInt8}
theorem qd.cells (h:qd w B b p v l):w.cell? ⟨b,0,none⟩=some p∧w.cell? ⟨b,1,none⟩=some v∧w.frozen? ⟨b,1,none⟩=false:=by
 refine⟨?_,?_,?_⟩<;>simp[World.cell?,World.frozen?,h.blk]
theorem qd.builder (h:qd w B b p v l):Lib.BuilderAt 141 5 B b p (bs l) w:=
 ⟨h.ge,v,h.blk,by rw[aQ];exact h.own,fun e=>own_ne h.own h.blk zx e.symm⟩
theorem qd.check (h:qd w B b p v l):
 Calls Tryz.prog 121 #[.pointer (some ⟨b,0,none⟩)] w fun e w'=>e= .returned (.tuple #[])∧qd w' B b (.pointer (some ⟨b,0,none⟩)) v l∧Below B w w'∧w'.heap.size=w.heap.size∧∀i,i≠b→w'.heap[i]? =w.heap[i]?:=by
 rcases h.pt with hp|hp
 ·subst hp;refine (Any.Builder_copyCheck_fresh Tryz.SE Tryz.oh b w h.cells.1 h.builder.shape h.builder.frozen0).mono fun e w' ⟨he,hw⟩=>?_
  subst hw
  have hb:(w.setCell ⟨b,0,none⟩ (.pointer (some ⟨b,0,none⟩))).heap[b]? =some (.cells #[.pointer (some ⟨b,0,none⟩),v] 141 (0,0)):=by
   simp[World.setCell,Array.getElem?_modify,h.blk]
  exact⟨he,⟨h.ge,hb,.inr rfl,Ag h.own (grownBy_set w b 0 _) (.inr fun e=>own_ne h.own h.blk zx e.symm)⟩,(zh _ _).setCell (p:=⟨b,0,none⟩) h.ge _,by simp[World.setCell],fun i hi=>zG w _ _ i (fun e=>hi e)⟩
 ·subst hp;refine (Any.Builder_copyCheck_used Tryz.SE Tryz.oh b w h.cells.1).mono fun e w' ⟨he,hw⟩=>?_
  subst hw;exact⟨he,h,zh _ _,rfl,fun _ _=>rfl⟩
theorem qd.put {w1 w2:World}{v2:Value}{l2:List UInt8}(h:qd w1 B b p v l)(hg:w1.grownBy w2 v.ownBlock)(ho:w2.ownsRow B 5 1 v2 l2.length (bs l2)):qd (w2.setCell ⟨b,1,none⟩ v2) B b p v2 l2:=by
 have hlt:=dV h.blk;have hb:w2.heap[b]? =some (.cells #[p,v] 141 (0,0)):=(hg.block b hlt (own_ne h.own h.blk zx)).trans h.blk
 have hb2:(w2.setCell ⟨b,1,none⟩ v2).heap[b]? =some (.cells #[p,v2] 141 (0,0)):=by
  simp[World.setCell,Array.getElem?_modify,hb]
 exact⟨h.ge,hb2,h.pt,Ag ho (grownBy_set w2 b 1 v2) (.inr fun e=>own_ne ho hb zx e.symm)⟩
end
def Wrote (w:World)(B b:Nat)(v:Value)(l:List UInt8)(w':World):Prop:=∃v',qd w' B b (.pointer (some ⟨b,0,none⟩)) v' l∧Fr w w' B b v v'
theorem WX {w w1 w2:World}{B b:Nat}{v v2:Value}{l l2:List UInt8}(h1:qd w1 B b (.pointer (some ⟨b,0,none⟩)) v l)(hb:Below B w w1)(hs:w1.heap.size=w.heap.size)(hk:∀i,i≠b→w1.heap[i]? =w.heap[i]?)(hB:B≤w.heap.size)
 (hg:w1.grownBy w2 v.ownBlock) (ho:w2.ownsRow B 5 1 v2 l2.length (bs l2)) (ha:∀q,v2.ownBlock=some q→v.ownBlock=some q∨w.heap.size≤q):Wrote w B b v l2 (w2.setCell ⟨b,1,none⟩ v2):=by
 have hlt:=dV h1.blk;refine⟨v2,h1.put hg ho,((hb.grown hg zy (fun q hq=>(h1.own.lt q hq).1)).setCell (p:=⟨b,1,none⟩) h1.ge _),fun i hi hib hiv=>?_,ha⟩
 rw[zG w2 _ _ i (fun e=>hib e),hg.block i zy hiv,hk i hib]
theorem qd.kept {w1 w2:World}{B b:Nat}{p v:Value}{l:List UInt8}(h:qd w1 B b p v l)(hg:w1.grownBy w2 v.ownBlock):w2.cell? ⟨b,1,none⟩=some v∧w2.frozen? ⟨b,1,none⟩=false:=by
 have hb:w2.heap[b]? =some (.cells #[p,v] 141 (0,0)):=(hg.block b (dV h.blk) (own_ne h.own h.blk zx)).trans h.blk;exact⟨by simp[World.cell?,hb],by simp[World.frozen?,hb]⟩
section
variable {w w':World} {B b:Nat} {p v:Value} {l:List UInt8}
theorem qd.grown (h:qd w B b p v l){row:Option Nat}(hg:w.grownBy w' row)(hb:some b≠row)(hv:v.ownBlock=none∨v.ownBlock≠row):qd w' B b p v l:=
 ⟨h.ge,(hg.block b (dV h.blk) hb).trans h.blk,h.pt,Ag h.own hg hv⟩
theorem qd.after (h:qd w B b p v l)(hb:Below w.heap.size w w'):qd w' B b p v l:=⟨h.ge,(hb.block b (dV h.blk)).trans h.blk,h.pt,mr h.own hb⟩
theorem qd.fresh (w:World):Lib.IsBuilder 141 5 w.heap.size w.heap.size [] (w.alloc (.cells #[.pointer none,.slice none 0 0] 141)):=
 .inl ⟨zn _,.slice none 0 0,yJ w _,yx _ _ _ _,by simp[Value.ownBlock]⟩
theorem qd.of (h:Lib.BuilderAt 141 5 B b (.pointer (some ⟨b,0,none⟩)) (bs l) w):∃v,qd w B b (.pointer (some ⟨b,0,none⟩)) v l:=by
 obtain⟨h1,v,h2,h3,_⟩:=h;rw[aQ] at h3;exact⟨v,h1,h2,.inr rfl,h3⟩
theorem KH (l:List UInt8):Lib.byteCells l=bs l:=by simp[Lib.byteCells,bs]
theorem qd.string (h:qd w B b p v l)(hB:B≤w.heap.size):Calls Tryz.prog 65 #[.pointer (some ⟨b,0,none⟩)] w fun e w'=>e= .returned (.string ⟨l.toArray⟩)∧Below B w w'∧∀(k:Nat) (o:Obj),w.heap[k]? =some o→o.isCells=false→w'.heap[k]? =some o:=by
 refine (Tryz.Builder_String_any_k B b l w ?_ hB).mono fun e w' ⟨h1,_,h3,h4⟩=>⟨h1,h3,fun k o hk ho=>h4 k o hk (fun e=>?_) fun c fz e=>by rw[e] at ho;cases ho⟩
 ·rw[KH];rcases h.pt with hp|hp
  ·subst hp;exact .inl (Lib.BuilderAtF.of h.builder)
  ·subst hp;exact .inr (Lib.BuilderAtF.of h.builder)
 ·obtain rfl:=zq e;rw[h.blk] at hk;obtain rfl:=zq hk
  cases ho
theorem Fr.rd {v':Value}{A:Option Addr}{xs:List Value}(h:Fr w w' B b v v')(hr:Rd w (fun q=>q≠b∧some q≠v.ownBlock) A xs):Rd w' (fun q=>q≠b∧some q≠v'.ownBlock) A xs:=
 hr.move fun i hi hp=>⟨⟨hp.1,fun e=>by
   rcases h.at' i e.symm with h1|h1
   ·exact hp.2 h1.symm
   ·omega⟩,h.keep i hi hp.1 hp.2⟩
end
theorem LA (B b:Nat)(p v:Value)(l:List UInt8)(s:ByteArray)(w:World)(h:qd w B b p v l)(hm:(l.length:Int)+(s.size:Int)≤140737488355328)(hB:B≤w.heap.size):
 Calls Tryz.prog 63 #[.pointer (some ⟨b,0,none⟩),.string s] w fun e w'=>e= .returned (.tuple #[.int .i64 (s.size:Int),.nilIface])∧Wrote w B b v (l++s.data.toList) w':=by
 have C:=zo h.check;clear h;go_enter Tryz.func63,Tryz.ntmps63
 go_wp2_with (first
  |(go_at_call 121;refine C.mono ?_;rintro e w1 ⟨rfl,h1,h2,h3,h4⟩;obtain⟨c0,c1,c2⟩:=h1.cells;have H1:=zo h1;have H2:=zo h2;have H3:=zo h3;have H4:=zo h4;clear h1 h2 h3 h4)
  |(at_builtin;go_must (refine O4 rfl (.tmp 12) (.tmp 13) rfl B v l.length (bs l) s rfl rfl H1.own (by unfold maxLen;omega) zy (by rw[H3.out];exact hB) ?_;intro v2 w2 ho hg ha;obtain⟨A2,c5,rfl,_⟩:=bg ho;obtain⟨k1,k2⟩:=H1.kept hg;have HO:=zo ho;have HG:=zo hg;have HA:=zo ha;clear ho hg ha)))
 go_ret2;refine⟨rfl,?_⟩;have ho:=HO.out;have ha:=HA.out;rw[H3.out] at ha;rw[LY,← Iw] at ho;have e:l.length+s.size=(l++s.data.toList).length:=by rw[zL,bF]
 rw[e] at ho ha ⊢;exact WX H1.out H2.out H3.out H4.out hB HG.out ho ha
end Go.Proofs.YtpjjgpjhpobkiaaGreatDoor
namespace Go.Proofs.YtpjjgpjhpobkiaaGreatDoor
section
open Go.RowKit Go.Shelf
theorem ae8:El Tryz.prog 142 145 (.agg #[.int .i64 0,.slice none 0 0]) 2 32:=⟨Tryz.underlying142,zz,rfl,zx⟩
abbrev S0 (n:Nat):Nat→Bool:=BX (fun _=>false) 0 n
theorem KV (n x:Nat):S0 n x=decide (x < n):=by simp[S0,BX]
theorem U3 {n:Nat}(h:1≤n):JG (S0 n) 0=0:=by
 have h1:=tY (S0 n) 0 zy;rcases Nat.eq_zero_or_pos (JG (S0 n) 0) with e|e
 ·exact e
 ·have:=h1.no 0 (zn _) e;rw[KV] at this;simp at this;omega
theorem DK {n t:Nat}(h:n≤t)(ht:t≤65536):JG (S0 n) t=65536:=by
 have h1:=tY (S0 n) t ht;rcases zP (JG (S0 n) t) 65536 with e|e
 ·have:=h1.yes e;rw[KV] at this;simp at this;have:=h1.ge;omega
 ·have:=h1.le;omega
theorem adQ {n:Nat}(h1:1≤n)(hn:n < 65536):JG (fun x=>!S0 n x) 0=n:=by
 have h2:=tY (fun x=>!S0 n x) 0 zy
 generalize JG (fun x=>!S0 n x) 0=m at h2 ⊢
 rcases Nat.lt_trichotomy m n with e|e|e
 ·have:=h2.yes zy;simp only[KV] at this;simp at this;omega
 ·exact e
 ·have:=h2.no n (zF _) e;simp only[KV] at this;simp at this
theorem oD.block {w w':World}{b n:Nat}{S:Nat→Bool}{D:Nat→UInt8}(h:oD w b S n D)(hb:Below w.heap.size w w'):oD w' b S n D:=by
 obtain⟨cs,h1,h2⟩:=h;exact⟨cs,(hb.block b (zT.1 h1).1).trans h1,h2⟩
def akg (w:World)(l:List UInt8)(e:Ending)(w':World):Prop:=∃v,e= .returned v∧Below w.heap.size w w'∧((l=[]∧v= .slice none 0 0)∨(l≠[]∧∃A c,w'.ownsRow w.heap.size 145 2 v 1 [.int .i64 0,.slice A l.length c]∧l.length≤c∧Rd w' (fun i=>w.heap.size≤i∧some i≠v.ownBlock) A (bs l)))
theorem VG {w:World}{g n:Nat}{S:Nat→Bool}{l:List UInt8}(h:oD w g S n (wr (fun _=>0) 0 l))(hl:l.length≤65536):Rd w (fun q=>q=g) (some ⟨g,1025,none⟩) (bs l):=fun _=>by
 refine⟨_,rfl,rfl,fun j u hu=>?_⟩
 have hj:j < l.length:=by rw[← aQ l];exact (zf.1 hu).1
 have e:(⟨g,1025,none⟩:Addr).add j=⟨g,1025+j,none⟩:=by
  unfold Addr.add;split
  ·rename_i h0;subst h0;rfl
  ·rfl
 have hu2:u= .int .u8 ((l[j]'hj).toNat:Int):=by
  have:(bs l)[j]? =some (.int .u8 ((l[j]'hj).toNat:Int)):=by simp[bs,hj]
  exact zq (hu.symm.trans this)
 rw[e,hu2];have:=h.byte j zy
 simpa [wr,hj] using this
theorem XR (g:Nat)(l:List UInt8)(k:Nat)(w:World)(hl:l.length≤1000)(hI:oD w g (S0 l.length) k (wr (fun _=>0) 0 l))(hT:TabAt 1 Lib.deBruijn64tab w)(hT2:∀W,Below w.heap.size w W→TabAt 1 Lib.deBruijn64tab W):
 Calls Tryz.prog 62 #[.pointer (some ⟨g,0,none⟩)] w (akg w l):=by
 have HI:=zo hI;have HT:=zo hT;have HT2:=zo hT2;clear hI hT hT2;by_cases h0:l=[]
 ·subst h0;have C0:=zo (o8 g (S0 0) 0 w zy HI.word HT.out);rw[DK (zn _) zy] at C0;go_enter Tryz.func62,Tryz.ntmps62
  go_wp2_with (go_at_call 22;refine C0.mono ?_;rintro e w' ⟨rfl,rfl⟩)
  refine xG 1 ?_;rw[y7];go_wp2;go_ret;exact⟨_,rfl,zh _ _,.inl ⟨rfl,rfl⟩⟩
 ·have h1:1≤l.length:=yG.2 h0;have C0:=zo (o8 g (S0 l.length) 0 w zy HI.word HT.out);rw[U3 h1] at C0
  have C1:Hid (Calls Tryz.prog 22 #[.pointer (some ⟨g,0,none⟩),.int .i64 0,.bool false] w fun e w'=>e= .returned (.int .i64 (l.length:Int))∧w=w'):=by
   have:=Sj g (S0 l.length) 0 w zy HI.word HT.out;rw[adQ h1 zy] at this;exact this
  have C2:Hid (∀W,Below w.heap.size w W→Calls Tryz.prog 22 #[.pointer (some ⟨g,0,none⟩),.int .i64 (l.length:Int),.bool true] W fun e w'=>e= .returned (.int .i64 ((65536:Nat):Int))∧W=w'):=fun W hb=>by
   have:=o8 g (S0 l.length) l.length W zy (HI.block hb).word (HT2.out W hb);rwa [DK (zn _) zy] at this
  have C3:=zo (Ip (some ⟨g,1025,none⟩) l l.length 65536 w (fun i=>i=g) rfl zy (VG HI.out zy))
  have hsl:∀W,(Instr.sliceAt 77 (.pointer (some ⟨g,1025,none⟩)) (some (.int .i64 0)) (some (.int .i64 (l.length:Int))) none).run Tryz.prog W= .ok (.slice (some ⟨g,1025,none⟩) l.length 65536) W:=fun W=>Gz g 1025 0 l.length l.length 65536 W (some (.int .i64 ((0:Nat):Int))) (some (.int .i64 (l.length:Int))) (.inr rfl) (.inr rfl) zy zy zy zy zy
  have HL:=zo (zM h1 hl);go_enter Tryz.func62,Tryz.ntmps62
  go_wp2_with (go_at_call 22;refine C0.mono ?_;rintro e w' ⟨rfl,rfl⟩)
  refine xG 2 ?_;rw[y7]
  go_wp2_with (first
   |(go_at_call 22;(with_reducible refine C1.out.mono ?_);rintro e w' ⟨rfl,rfl⟩)
   |(go_at_call 120;refine C3.mono ?_;rintro e w1 ⟨v1,rfl,ho1,hb1⟩;obtain⟨A1,c1,rfl,hc1,_⟩:=bg ho1;have Ls:=zo ho1;have HB1:=zo hb1;have HC1:=zo hc1;clear ho1 hb1 hc1)
   |(at_builtin;refine bu ae8 rfl (.tmp 19) (.tmp 29) rfl w.heap.size _ 0 [] (fun _=>True) _ 1 1 [.int .i64 0,.slice A1 l.length c1] rfl rfl (yx _ _ _ _) rfl (Rd.new _ _ _ trivial) (by intro u hu;simp at hu;rcases hu with rfl|rfl<;>rfl) (by simp only[maxLen];omega) zy (by simp;have:=HB1.size;omega) ?_;intro v2 w2 ho2 hg2 NB hz2;have uW:=zo ho2;have HG2:=zo hg2;have HA2:=zo NB;clear ho2 hg2 NB hz2;have HB2:=zo ((HB1.alloc HB1.size (.cells #[.int .i64 0,.slice A1 l.length c1] 145)).grown HG2.out (by simp;have:=HB1.size;omega) (fun q hq=>by cases hq)))
   |(go_at_call 22;(with_reducible refine (C2.out _ HB2.out).mono ?_);rintro e w' ⟨rfl,rfl⟩))
  rw[y7];go_wp2;go_ret;refine⟨v2,rfl,HB2.out,.inr ⟨h0,A1,c1,uW.out,HC1.out,?_⟩⟩;have hv:=uW.out;refine ((Rd.jf (p:=fun i=>i < w1.heap.size∧w.heap.size≤i) Ls.out fun i h1 h2=>⟨h2,h1⟩).after ((zh w1.heap.size w1).alloc (zn _) (.cells #[.int .i64 0,.slice A1 l.length c1] 145))).move fun i hi hp=>?_
  refine⟨⟨hp.2,fun e=>?_⟩,HG2.block i hi fun e=>by cases e⟩
  rcases HA2.out with h|h
  ·rw[h] at e
   cases e
  ·rw[h] at e;have:=zq e;simp at this;omega
end
