/- The walk of the statement TopInstructions, over contracts of what it calls. -/
import Derived.Test.YtceaodnohnekkaaGreatDoorMK3
import Derived.Test.YtceaodnohnekkaaGreatDoorMK4
import Derived.Test.YtceaodnohnekkaaGreatDoorMK16
import Derived.Test.YtceaodnohnekkaaGreatDoorMKk
import Derived.Test.YtceaodnohnekkaaGreatDoorMK17
import Derived.Test.YtceaodnohnekkaaGreatDoorMK18
import Derived.Deep.RegionHeld3
namespace Go.Proofs.YtceaodnohnekkaaGreatDoor
open Go.RowKit Ex
structure TiK (w W:World)(b2 b9 b10:Nat)(s:ByteArray)(A:Option Addr)(n c:Nat)(A3:Option Addr)(k c3:Nat)(A4:Option Addr)(m c4:Nat)(A5:Option Addr)(c5:Nat)(AB:Option Addr)(d:List UInt8)(l lc:List ay):Prop where
 k2:Bk W b2 24 [.string s,.slice A n c]
 k9:Bk W b9 35 [.int .i64 1,.slice A3 k c3,.string s,.slice A4 m c4,.bool false]
 k10:Bk W b10 24 [.string s,.slice A5 m c5]
 rb:Rd W (fun _=>True) AB (bs d)
 r3:Rd W (fun _=>True) A3 (bs d)
 r4:Rd W (fun _=>True) A4 (bE lc)
 r5:Rd W (fun _=>True) A5 (bE lc)
 r:Rd W (fun _=>True) A (bE l)
 b:Below w.heap.size w W
section
variable {w W W':World} {b2 b9 b10:Nat} {s:ByteArray} {A:Option Addr} {n c:Nat} {A3:Option Addr} {k c3:Nat} {A4:Option Addr} {m c4:Nat} {A5:Option Addr} {c5:Nat} {AB:Option Addr} {d:List UInt8} {l lc:List ay}
theorem TiK.after (h:TiK w W b2 b9 b10 s A n c A3 k c3 A4 m c4 A5 c5 AB d l lc)(hb:Below W.heap.size W W'):TiK w W' b2 b9 b10 s A n c A3 k c3 A4 m c4 A5 c5 AB d l lc:=
 ⟨h.k2.after hb,h.k9.after hb,h.k10.after hb,h.rb.after hb,h.r3.after hb,h.r4.after hb,h.r5.after hb,h.r.after hb,h.b.trans (hb.mono h.b.size)⟩
theorem TiK.cells (h:TiK w W b2 b9 b10 s A n c A3 k c3 A4 m c4 A5 c5 AB d l lc):W.cell? ⟨b2,0,none⟩=some (.string s)∧W.cell? ⟨b2,1,none⟩=some (.slice A n c)∧W.cell? ⟨b9,0,none⟩=some (.int .i64 1)∧W.cell? ⟨b9,1,none⟩=some (.slice A3 k c3)∧W.cell? ⟨b9,2,none⟩=some (.string s)∧W.cell? ⟨b9,3,none⟩=some (.slice A4 m c4)∧W.cell? ⟨b9,4,none⟩=some (.bool false)∧W.cell? ⟨b10,0,none⟩=some (.string s)∧W.cell? ⟨b10,1,none⟩=some (.slice A5 m c5):=
 ⟨h.k2.cell 0 rfl,h.k2.cell 1 rfl,h.k9.cell 0 rfl,h.k9.cell 1 rfl,h.k9.cell 2 rfl,h.k9.cell 3 rfl,h.k9.cell 4 rfl,h.k10.cell 0 rfl,h.k10.cell 1 rfl⟩
end
def aoH (nm:List Nat)(L:List UInt8)(lc:List ay)(W:World)(e:Ending)(w':World):Prop:=∃A' c' A'' c'',e= .returned (.agg #[.int .i64 1,.slice A' L.length c',.string (aa nm),.slice A'' lc.length c'',.bool false])∧Rd w' (fun _=>True) A' (bs L)∧Rd w' (fun _=>True) A'' (bE lc)∧Below W.heap.size W w'
set_option maxHeartbeats 4000000 in
theorem aja (s:ByteArray)(A A2:Option Addr)(n c n2 c2:Nat)(w:World)(hG:gJ w)(hbig:100 < s.size∨20 < n∨200 < n2):
 Calls Tryz.prog 3 #[.agg #[.string s,.slice A n c],.slice A2 n2 c2] w fun e w'=>e= .returned (.bool true)∧Below w.heap.size w w':=by
 have CAl:=zz (fun W (hb:Below w.heap.size w W)=>Ce W (hG.after hb))
 have HA:Hid (Below w.heap.size w (w.alloc (.cells #[.string s,.slice A n c] 24))):=zz ((zo _ _).alloc (zu _) _)
 have x0:=(Bk.new w 24 [.string s,.slice A n c]).cell 0 rfl
 have x1:=(Bk.new w 24 [.string s,.slice A n c]).cell 1 rfl
 have HC:Hid ((decide ((100:Int) < (s.size:Int))=true)∨(decide ((100:Int) < (s.size:Int))=false∧decide ((20:Int) < (n:Int))=true)∨(decide ((100:Int) < (s.size:Int))=false∧decide ((20:Int) < (n:Int))=false∧decide ((200:Int) < (n2:Int))=true)):=zz (by
  simp only[decide_eq_true_eq,decide_eq_false_iff_not]
  omega)
 clear hbig hG
 rcases HC.out with d1 | ⟨d1,d2⟩ | ⟨d1,d2,d3⟩
 all_goals
  clear HC
  go_enter Tryz.func3,Tryz.ntmps3
  go_wp2_with (go_at_call 4;refine (CAl.out _ HA.out).mono ?_;rintro e w1 ⟨rfl,hb⟩;have HB1:=zz (HA.out.trans (hb.mono HA.out.size));clear hb)
  go_ret
  exact⟨rfl,HB1.out⟩
set_option maxHeartbeats 4000000 in
theorem ai9 (s:ByteArray)(A A2:Option Addr)(l:List ay)(d2:List UInt8)(n c n2 c2:Nat)(w:World)(p p2:Nat→Prop)(hG:gJ w)(hn:l.length=n)(hn2:d2.length=n2)(h64:∀o∈l,mQ o)(h:Rd w p A (bE l))(h2:Rd w p2 A2 (bs d2))(hs:s.size≤100)(hm:n≤20)(hm2:n2≤200):
 Calls Tryz.prog 3 #[.agg #[.string s,.slice A n c],.slice A2 n2 c2] w fun e w'=>e= .returned (.bool true)∧Below w.heap.size w w':=by
 have CAl:=zz (fun W (hb:Below w.heap.size w W)=>Ce W (hG.after hb))
 have CEn:=zz (fun W (hb:Below w.heap.size w W)=>NC s A l n c W p (hG.after hb) hn (by omega) h64 (h.after hb))
 have CFd:=zz (fun W (hb:Below w.heap.size w W)=>Ur s A l n c W p (hG.after hb) hn (by omega) h64 (h.after hb))
 have COf:=zz (fun W (hb:Below w.heap.size w W) (nm:List Nat) (hnm:nm∈dY) (hl3:l.length≤3)=>OC nm (kK hnm) A l n c W p hn.symm hl3 h64 (h.after hb))
 have hGG:=zz (fun W (hb:Below w.heap.size w W)=>hG.after hb)
 have HH:=zz (zy hn (zy hn2 (zy h h2)))
 have HA:Hid (Below w.heap.size w (w.alloc (.cells #[.string s,.slice A n c] 24))):=zz ((zo _ _).alloc (zu _) _)
 have HK:Hid (Bk (w.alloc (.cells #[.string s,.slice A n c] 24)) w.heap.size 24 [.string s,.slice A n c]):=zz (Bk.new w _ _)
 have d1:decide ((100:Int) < (s.size:Int))=false:=decide_eq_false (by omega)
 have d2':decide ((20:Int) < (n:Int))=false:=decide_eq_false (by omega)
 have d3:decide ((200:Int) < (n2:Int))=false:=decide_eq_false (by omega)
 have HM:=zz (zy hm hm2)
 clear hn hn2 h64 h h2 hs hm hm2 hG
 go_enter Tryz.func3,Tryz.ntmps3
 go_upto_region 1 with fail
 obtain⟨b2,hb2⟩:∃b,w.heap.size=b:=⟨_,rfl⟩
 rw[hb2] at HK ⊢
 clear hb2
 generalize w.alloc (.cells #[.string s,.slice A n c] 24)=W0 at HA HK ⊢
 have x0:=HK.out.cell 0 rfl
 have x1:=HK.out.cell 1 rfl
 go_upto_region 4 with (go_at_call 5;refine (CEn.out _ HA.out).mono ?_;rintro e w1 ⟨AB,nb,cb,code,rfl,hen,hb⟩;have HE:=zz hen;have HB1:=zz (HA.out.trans (hb.mono HA.out.size));have fE:=zz (HK.out.after hb);have y0:=(HK.out.after hb).cell 0 rfl;have y1:=(HK.out.after hb).cell 1 rfl;clear hb hen)
 clear x0 x1
 go_upto_region 5 with (go_at_call 6;refine (CFd.out _ HB1.out).mono ?_;rintro e w2 ⟨_,atY,rfl,⟨p0,o0,UK,A0,n0,c0,Vu,WR,rfl⟩,hf,hb⟩;have HF:=zz hf;have HB2:=zz (HB1.out.trans (hb.mono HB1.out.size));have kE:=zz (fE.out.after hb);have HD2:=zz hb;clear hb hf)
 obtain rfl:code=atY:=VJ HE.out HF.out
 clear HF y0 y1 CEn CFd
 by_cases h0:code=0
 ·subst h0
  obtain⟨nm,pg,o,d,hg⟩:=acG HE.out
  obtain rfl:=hg.hs
  obtain⟨dv,hdv⟩:∃dv,JZ d (aK nm l)=dv:=⟨_,rfl⟩
  obtain⟨nv,hnv⟩:∃nv,I5 d (aK nm l)=nv:=⟨_,rfl⟩
  have hput:=hg.put
  have hln:=hg.ln
  have hrd:=hg.rd
  rw[hdv,hnv] at hput hln hrd
  obtain⟨k1,k2,k3⟩:=anc hg.hd hg.hk hput.2.2.1 (bs d2)
  rw[ahq pg hg.ho] at hln hrd k1 k2 k3
  obtain⟨L,hL⟩:∃L,aoi pg o d.2.2.1 dv nv=L:=⟨_,rfl⟩
  rw[hL] at hln hrd k1 k2 k3
  obtain⟨lc,hlc⟩:∃lc,aK nm l=lc:=⟨_,rfl⟩
  have hop:=agh hput.2.2.2
  rw[hlc] at hput hop
  have hl3:=hg.l3
  rw[aS] at hln k2 k3
  subst hln
  have HC:Hid (ItC pg o d dv nv (bs L++bs d2) L.length):=zz ⟨hg.p6,hg.ho,hg.hd,hg.hk,hput.1,hput.2.1,by rw[aS] at k1;exact k1,fun u hu=>by
   rcases List.mem_append.1 hu with hu | hu
   ·exact tO _ u hu
   ·exact tO _ u hu,k2,by rw[List.length_append,aS,aS];omega,by rw[List.length_append,aS,aS];have:=HM.out.2;have:=HH.out.2.1;omega⟩
  have hbe:=(zo w2.heap.size w2).alloc (zu _) (.cells #[.int .i64 p0,.int .u8 o0,.string UK,.slice A0 n0 c0,.string Vu,.bool WR] 31)
  have HB3:=zz (HB2.out.trans (hbe.mono HB2.out.size))
  have HD3:=zz (HD2.out.trans (hbe.mono HD2.out.size))
  have HK3:=zz (kE.out.after hbe)
  have aoC:=zz (hrd.after HD3.out)
  clear hbe
  have CCc:=zz (fun W gs (hb:Below w1.heap.size w1 W) (hk:Bk W gs 25 [.slice AB L.length cb,.slice A2 n2 c2])=>NI gs 25 AB A2 L.length cb n2 c2 (bs L) (bs d2) W _ _ hk (hrd.after hb) (HH.out.2.2.2.after (HB1.out.trans (hb.mono HB1.out.size))) (aS _) (by rw[aS];exact HH.out.2.1) (fun u hu=>tO _ u hu) (fun u hu=>tO _ u hu) k2 (by omega) (by have:=HM.out.2;omega))
  have hal:=hg.al
  have hdn:=hg.dn
  have CFi:=zz (fun W (hb:Below w.heap.size w W) A N c (hN:L.length+n2=N) (hc:N≤c) (hr:Rd W (fun _=>True) A (bs L++bs d2))=>by
   exact (NG (hGG.out W hb) HC.out A N c (by rw[List.length_append,aS,aS,HH.out.2.1];exact hN) hc _ hr).mono fun e w' h=>show aoH nm L lc W e w' from by
    unfold aeD at h
    rw[hal,hdn,hop,hput.2.2.2,List.take_left' (aS L)] at h
    exact h)
  have COx:=zz (fun W (hb:Below w.heap.size w W)=>COf.out W hb nm hg.hnm hl3)
  have axJ:L.length≤4:=k3
  have HLc:Hid (lc.length≤3):=zz (by rw[← hlc];exact l5 nm l hl3)
  have HLn:=zz (zy k2 k3)
  rw[hlc] at COx
  clear hrd k1 k2 k3 hput hop hl3 hal hdn hg hL hlc hdv hnv HE COf HC
  go_upto_region 9 with fail
  generalize (w2.alloc (.cells #[.int .i64 p0,.int .u8 o0,.string UK,.slice A0 n0 c0,.string Vu,.bool WR] 31))=W3 at HB3 HD3 HK3 aoC ⊢
  have hb4:=(zo W3.heap.size W3).alloc (zu _) (.cells #[.slice AB L.length cb,.slice A2 n2 c2] 25)
  have HD4:=zz (HD3.out.trans (hb4.mono HD3.out.size))
  have EH:=zz (HB3.out.trans (hb4.mono HB3.out.size))
  have HK4:Hid (Bk (W3.alloc (.cells #[.slice AB L.length cb,.slice A2 n2 c2] 25)) W3.heap.size 25 [.slice AB L.length cb,.slice A2 n2 c2]):=zz (Bk.new W3 _ _)
  have HI4:=zz (HK3.out.after hb4)
  have aum:=zz (aoC.out.after hb4)
  clear hb4
  go_upto_region 10 with (first
   |(go_at_call 8;refine (CCc.out _ _ HD4.out HK4.out).mono ?_;rintro e w5 ⟨A4,c4,rfl,hc4,hr4,hb⟩;have HB5:=zz (EH.out.trans (hb.mono EH.out.size));have HI5:=zz (HI4.out.after hb);have aul:=zz (aum.out.after hb);have HR5:=zz (zy hc4 hr4);clear hb hc4 hr4)
   |(go_at_call 7;refine (CFi.out _ HB5.out _ _ _ rfl HR5.out.1 HR5.out.2).mono ?_;rintro e w6 ⟨Ax,cx,Ay,cy,rfl,hx,hy,hb⟩;have HB6:=zz (HB5.out.trans (hb.mono HB5.out.size));have HI6:=zz (HI5.out.after hb);have auk:=zz (aul.out.after hb);have HR6:=zz (zy hx hy);clear hb hx hy))
  have Np:=(zo w6.heap.size w6).alloc (zu _) (.cells #[.int .i64 1,.slice Ax L.length cx,.string (aa nm),.slice Ay lc.length cy,.bool false] 35)
  have HB7:=zz (HB6.out.trans (Np.mono HB6.out.size))
  have HI7:=zz (HI6.out.after Np)
  have aoB:=zz (auk.out.after Np)
  have HR7:=zz (zy (HR6.out.1.after Np) (HR6.out.2.after Np))
  have Sm:Hid (Bk (w6.alloc (.cells #[.int .i64 1,.slice Ax L.length cx,.string (aa nm),.slice Ay lc.length cy,.bool false] 35)) w6.heap.size 35 [.int .i64 1,.slice Ax L.length cx,.string (aa nm),.slice Ay lc.length cy,.bool false]):=zz (Bk.new w6 _ _)
  clear Np EH HI4 aum HB5 HI5 aul HR5 HB6 HI6 auk HR6 HD4 HK4 HB3 HD3 HK3 aoC CCc CFi
  generalize w6.alloc (.cells #[.int .i64 1,.slice Ax L.length cx,.string (aa nm),.slice Ay lc.length cy,.bool false] 35)=W7 at HB7 HI7 aoB HR7 Sm ⊢
  generalize w6.heap.size=b9 at Sm ⊢
  have x0:=HI7.out.cell 0 rfl
  have x1:=HI7.out.cell 1 rfl
  go_upto_region 11 with (go_at_call 9;refine (COx.out _ HB7.out).mono ?_;rintro e w8 ⟨A5,c5,rfl,hr5,hb⟩;have Xh:=zz (HB7.out.trans (hb.mono HB7.out.size));have HI8:=zz (HI7.out.after hb);have auj:=zz (aoB.out.after hb);have KC:=zz (zy (HR7.out.1.after hb) (zy (HR7.out.2.after hb) hr5));have HN8:=zz (Sm.out.after hb);clear hb hr5)
  have DR:=(zo w8.heap.size w8).alloc (zu _) (.cells #[.string (aa nm),.slice A5 lc.length c5] 24)
  have TK:Hid (TiK w (w8.alloc (.cells #[.string (aa nm),.slice A5 lc.length c5] 24)) b2 b9 w8.heap.size (aa nm) A n c Ax L.length cx Ay lc.length cy A5 c5 AB L l lc):=zz ⟨HI8.out.after DR,HN8.out.after DR,Bk.new w8 _ _,auj.out.after DR,KC.out.1.after DR,KC.out.2.1.after DR,KC.out.2.2.after DR,((HH.out.2.2.1.after (Xh.out.trans (DR.mono Xh.out.size))).mono fun _ _ _=>trivial),Xh.out.trans (DR.mono Xh.out.size)⟩
  clear DR x0 x1 Xh HI8 auj KC HN8 HB7 HI7 aoB HR7 Sm COx
  generalize w8.alloc (.cells #[.string (aa nm),.slice A5 lc.length c5] 24)=W9 at TK ⊢
  generalize w8.heap.size=b10 at TK ⊢
  have TKd:=zz (TK.out.after (aM (zo W9.heap.size W9)))
  have CEq:Hid (∀W,TiK w W b2 b9 b10 (aa nm) A n c Ax L.length cx Ay lc.length cy A5 c5 AB L l lc→Calls Tryz.prog 10 #[.slice Ax L.length cx,.slice AB L.length cb] W fun e w'=>e= .returned (.bool true)∧Below W.heap.size W w'):=zz fun W hW=>by
   refine (Vx Ax AB L L L.length L.length cx cb W _ _ rfl rfl (by omega) hW.r3 hW.rb).mono ?_
   rintro e w' ⟨he,m,rfl⟩
   exact⟨by rw[he,decide_eq_true rfl],aU _ _ _⟩
  have CRs:Hid (∀W,TiK w W b2 b9 b10 (aa nm) A n c Ax L.length cx Ay lc.length cy A5 c5 AB L l lc→Calls Tryz.prog 11 #[.agg #[.string (aa nm),.slice Ay lc.length cy],.agg #[.string (aa nm),.slice A5 lc.length c5]] W fun e w'=>e= .returned (.bool true)∧Below W.heap.size W w'):=zz fun W hW=>by
   have:=AJ (aa nm) (aa nm) Ay A5 lc lc lc.length lc.length cy c5 W _ _ rfl rfl (by have:=HLc.out;omega) (by have:=HLc.out;omega) hW.r4 hW.r5
   rw[decide_eq_true (p:=aa nm=aa nm∧lc=lc) ⟨rfl,rfl⟩] at this
   exact this
  obtain⟨bq,hbq⟩:∃bq,decide (aa nm=aa nm∧lc=l)=bq:=⟨_,rfl⟩
  have CIs:Hid (∀W,TiK w W b2 b9 b10 (aa nm) A n c Ax L.length cx Ay lc.length cy A5 c5 AB L l lc→Calls Tryz.prog 12 #[.agg #[.string (aa nm),.slice Ay lc.length cy],.agg #[.string (aa nm),.slice A n c]] W fun e w'=>e= .returned (.bool bq)∧Below W.heap.size W w'):=zz fun W hW=>by
   rw[← hbq]
   exact sM (aa nm) (aa nm) Ay A lc l lc.length n cy c W _ _ rfl HH.out.1 (by have:=HLc.out;omega) hW.r4 hW.r
  have CRc:Hid (∀W,TiK w W b2 b9 b10 (aa nm) A n c Ax L.length cx Ay lc.length cy A5 c5 AB L l lc→Calls Tryz.prog 11 #[.agg #[.string (aa nm),.slice A5 lc.length c5],.agg #[.string (aa nm),.slice A n c]] W fun e w'=>e= .returned (.bool bq)∧Below W.heap.size W w'):=zz fun W hW=>by
   rw[← hbq]
   exact AJ (aa nm) (aa nm) A5 A lc l lc.length n c5 c W _ _ rfl HH.out.1.symm (by have:=HLc.out;omega) (by rw[HH.out.1];have:=HM.out.1;omega) hW.r5 hW.r
  have l1:(1:Int)≤(L.length:Int):=by have:=HLn.out.1;omega
  have l2:(L.length:Int)≤4:=by have:=HLn.out.2;omega
  have l3:decide ((1:Int)≤(L.length:Int))=true:=decide_eq_true l1
  have l4:decide ((L.length:Int)≤4)=true:=decide_eq_true l2
  clear hbq axJ d1 d2' d3 TK
  go_region_held3 (fun w'=>w'.cell? ⟨b2,0,none⟩=some (.string (aa nm))∧w'.cell? ⟨b2,1,none⟩=some (.slice A n c)∧w'.cell? ⟨b9,0,none⟩=some (.int .i64 1)∧w'.cell? ⟨b9,1,none⟩=some (.slice Ax L.length cx)∧w'.cell? ⟨b9,2,none⟩=some (.string (aa nm))∧w'.cell? ⟨b9,3,none⟩=some (.slice Ay lc.length cy)∧w'.cell? ⟨b9,4,none⟩=some (.bool false)∧w'.cell? ⟨b10,0,none⟩=some (.string (aa nm))∧w'.cell? ⟨b10,1,none⟩=some (.slice A5 lc.length c5)) (first | assumption | exact TKd.out.cells | exact T6.out.cells | exact T5.out.cells | exact T4.out.cells | exact T3.out.cells | exact T2.out.cells | exact T1.out.cells) (first
   |(go_at_call 4;refine (CAl.out _ TKd.out.b).mono ?_;rintro e w10 ⟨rfl,hb⟩;have T1:=zz (TKd.out.after hb);clear hb)
   |(go_at_call 10;refine (CEq.out _ T1.out).mono ?_;rintro e w11 ⟨rfl,hb⟩;have T2:=zz (T1.out.after hb);clear hb)
   |(go_at_call 11;(with_reducible refine (CRs.out _ T2.out).mono ?_);rintro e w12 ⟨rfl,hb⟩;have T3:=zz (T2.out.after hb);clear hb)
   |(go_at_call 12;refine (CIs.out _ T4.out).mono ?_;rintro e w13 ⟨rfl,hb⟩;have T6:=zz (T4.out.after hb);clear hb)
   |(go_at_call 12;refine (CIs.out _ T3.out).mono ?_;rintro e w13 ⟨rfl,hb⟩;have T5:=zz (T3.out.after hb);clear hb)
   |(go_at_call 11;(with_reducible refine (CRc.out _ T5.out).mono ?_);rintro e w14 ⟨rfl,hb⟩;have T6:=zz (T5.out.after hb);clear hb)
   |(go_at_call 11;(with_reducible refine (CRc.out _ T3.out).mono ?_);rintro e w14 ⟨rfl,hb⟩;have T4:=zz (T3.out.after hb);clear hb))
  all_goals
   go_wp2
   go_ret
   exact⟨rfl,T6.out.b⟩
 ·have e1:(code != 0)=true:=bne_iff_ne.2 h0
  obtain rfl:=acF HE.out h0
  have HX:Hid (Below w.heap.size w (w2.alloc (.cells #[.int .i64 p0,.int .u8 o0,.string UK,.slice A0 n0 c0,.string Vu,.bool WR] 31))):=zz ((HB2.out).alloc (by have:=HB2.out.size;omega) _)
  clear COf HE fE kE HD2
  go_wp2_with (go_at_call 4;refine (CAl.out _ HX.out).mono ?_;rintro e w3 ⟨rfl,hb⟩;have HB3:=zz (HX.out.trans (hb.mono HX.out.size));clear hb)
  go_ret
  exact⟨rfl,HB3.out⟩
theorem ajb (s:ByteArray)(A A2:Option Addr)(l:List ay)(d2:List UInt8)(c c2:Nat)(w:World)(p p2:Nat→Prop)(hG:gJ w)(h64:∀o∈l,mQ o)(h:Rd w p A (bE l))(h2:Rd w p2 A2 (bs d2)):
 Calls Tryz.prog 3 #[.agg #[.string s,.slice A l.length c],.slice A2 d2.length c2] w fun e w'=>e= .returned (.bool true)∧Below w.heap.size w w':=by
 by_cases hb:100 < s.size∨20 < l.length∨200 < d2.length
 ·exact aja s A A2 l.length c d2.length c2 w hG hb
 ·exact ai9 s A A2 l d2 l.length c d2.length c2 w p p2 hG rfl rfl h64 h h2 (by omega) (by omega) (by omega)
end Go.Proofs.YtceaodnohnekkaaGreatDoor
