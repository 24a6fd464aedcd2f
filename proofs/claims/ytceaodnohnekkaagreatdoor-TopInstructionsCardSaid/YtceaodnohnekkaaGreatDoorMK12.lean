/- The walk of Fits of the reference of search. -/
import Derived.Test.YtceaodnohnekkaaGreatDoorMK6
import Derived.Test.YtceaodnohnekkaaGreatDoorMKk
namespace Go.Proofs.YtceaodnohnekkaaGreatDoor
open Go.RowKit Ex
def vg (ex:List Nat)(l lc:List ay)(k:Nat):Bool:=if gB ex l k=0 then decide (dC l k=dC lc k) else qU (uW (gB ex l k)).1 (uW (gB ex l k)).2 (dC lc k)
def sU (ex:List Nat)(l lc:List ay):Bool:=(List.range lc.length).all (vg ex l lc)
theorem anE {ex:List Nat}{l lc:List ay}{k:Nat}(hk:k < lc.length)(h:vg ex l lc k=false):false=sU ex l lc:=by
 symm
 unfold sU
 rw[List.all_eq_false]
 exact⟨k,List.mem_range.2 hk,by rw[h];decide⟩
theorem anD {ex:List Nat}{l lc:List ay}(h:∀k,k < lc.length→vg ex l lc k=true):true=sU ex l lc:=by
 symm
 unfold sU
 rw[List.all_eq_true]
 exact fun k hk=>h k (List.mem_range.1 hk)
theorem abB (ex:List Nat)(o:ay)(rest:List ay):Nf ex o rest=0∨Nf ex o rest∈cO:=by
 unfold Nf cO
 split
 ·simp
 ·split
  ·simp
  ·split
   ·simp
   ·split
    ·simp
    ·split
     ·simp
     ·split <;> simp
theorem Jd (ex:List Nat)(l:List ay)(k:Nat):gB ex l k=0∨gB ex l k∈cO:=by
 unfold gB
 split
 ·exact .inl rfl
 ·exact abB _ _ _
structure FiW (w W:World)(pg o:Value)(s:ByteArray)(A:Option Addr)(n c:Nat)(ex:List Nat)(al:Value)(l:List ay)(b5:Nat)(s':ByteArray)(A5:Option Addr)(n5 c5:Nat)(lc:List ay):Prop where
 b0:Bk W w.heap.size 31 [pg,o,.string s,.slice A n c,.string (aa ex),al]
 b5:Bk W b5 24 [.string s',.slice A5 n5 c5]
 r0:Rd W (fun _=>True) A (bE l)
 r5:Rd W (fun _=>True) A5 (bE lc)
 bl:Below w.heap.size w W
theorem FiW.after {w W W':World}{pg o:Value}{s:ByteArray}{A:Option Addr}{n c:Nat}{ex:List Nat}{al:Value}{l:List ay}{b5:Nat}{s':ByteArray}{A5:Option Addr}{n5 c5:Nat}{lc:List ay}(h:FiW w W pg o s A n c ex al l b5 s' A5 n5 c5 lc)(hb:Below W.heap.size W W'):FiW w W' pg o s A n c ex al l b5 s' A5 n5 c5 lc:=
 ⟨h.b0.after hb,h.b5.after hb,h.r0.after hb,h.r5.after hb,h.bl.trans (hb.mono h.bl.size)⟩
set_option maxRecDepth 100000 in
set_option maxHeartbeats 8000000 in
theorem Uo (pg o:Value)(s s':ByteArray)(ex:List Nat)(al:Value)(A A':Option Addr)(l lc:List ay)(n c n' c':Nat)(w:World)(p:Nat→Prop)(hx:lU ex DZ=true)(hn:n=l.length)(hm:l.length≤3)(hlc:lc.length≤3)(h64:∀o∈lc,mQ o)(h:Rd w p A (bE l))(hG:gJ w)
 (C9:∀W,Below w.heap.size w W→Calls Tryz.prog 9 #[.agg #[.string s',.slice A' n' c']] W fun e w'=>∃A5 c5,e= .returned (.agg #[.string s',.slice A5 lc.length c5])∧Rd w' (fun _=>True) A5 (bE lc)∧Below W.heap.size W w'):
 Calls Tryz.prog 23 #[.agg #[pg,o,.string s,.slice A n c,.string (aa ex),al],.agg #[.string s',.slice A' n' c']] w fun e w'=>e= .returned (.bool (bK s s' l lc && sU ex l lc))∧Below w.heap.size w w':=by
 have C9:=zz C9
 obtain⟨n5,mK⟩:∃n5,lc.length=n5:=⟨_,rfl⟩
 rw[mK] at C9
 have CS:Hid (∀W A5 c5,Rd W (fun _=>True) A (bE l)→Rd W (fun _=>True) A5 (bE lc)→Calls Tryz.prog 22 #[.agg #[pg,o,.string s,.slice A n c,.string (aa ex),al],.agg #[.string s',.slice A5 n5 c5]] W fun e w'=>e= .returned (.bool (bK s s' l lc))∧Below W.heap.size W w'):=fun W A5 c5 r r'=>uu pg o s s' (.string (aa ex)) al A A5 l lc n n5 c c5 W _ _ hn mK.symm (by omega) (by omega) r r'
 have CL:Hid (∀W (k:Nat),k < n→Below w.heap.size w W→Rd W (fun _=>True) A (bE l)→Calls Tryz.prog 48 #[.agg #[pg,o,.string s,.slice A n c,.string (aa ex),al],.int .i64 (k:Int)] W fun e w'=>e= .returned (.int .u8 (gB ex l k))∧Below W.heap.size W w'):=fun W k hk hb r=>Nb pg o s ex al A l n c k W _ hx hn (by omega) hk r fun W' hb'=>(hG.after hb).after hb'
 have CI:Hid (∀W (t:Nat) z,t∈cO→Calls Tryz.prog 49 #[.int .u8 (t:Int),.int .i64 z] W fun e w'=>e= .returned (.bool (qU (uW t).1 (uW t).2 z))∧W=w'):=fun W t z ht=>Xm ht W
 have H0:Hid (Below w.heap.size w ((w.alloc (.cells #[pg,o,.string s,.slice A n c,.string (aa ex),al] 31)).alloc (.cells #[.string s',.slice A' n' c'] 24))):=((zo _ _).alloc (zu _) _).alloc (by simp) _
 have HK:Hid (Bk ((w.alloc (.cells #[pg,o,.string s,.slice A n c,.string (aa ex),al] 31)).alloc (.cells #[.string s',.slice A' n' c'] 24)) w.heap.size 31 [pg,o,.string s,.slice A n c,.string (aa ex),al]):=(Bk.new w _ _).alloc _
 have fE:Hid (Bk ((w.alloc (.cells #[pg,o,.string s,.slice A n c,.string (aa ex),al] 31)).alloc (.cells #[.string s',.slice A' n' c'] 24)) (w.heap.size+1) 24 [.string s',.slice A' n' c']):=by
  have:=Bk.new (w.alloc (.cells #[pg,o,.string s,.slice A n c,.string (aa ex),al] 31)) 24 [.string s',.slice A' n' c']
  rwa [World.size_alloc] at this
 have HR:Hid (Rd ((w.alloc (.cells #[pg,o,.string s,.slice A n c,.string (aa ex),al] 31)).alloc (.cells #[.string s',.slice A' n' c'] 24)) (fun _=>True) A (bE l)):=(h.after H0.out).gz fun _ _=>trivial
 have HN:=zz hn
 have HN5:=zz mK
 have H64:=zz h64
 have hni:(n:Int)≤3:=by omega
 have aAP:(n5:Int)≤3:=by omega
 obtain⟨sb,hsb⟩:∃sb,bK s s' l lc=sb:=⟨_,rfl⟩
 rw[hsb] at CS ⊢
 have HSB:=zz hsb
 clear h hn mK hm hlc h64 hG hx hsb
 go_enter Tryz.func23,Tryz.ntmps23
 go_upto_region 1 with fail
 generalize ((w.alloc (.cells #[pg,o,.string s,.slice A n c,.string (aa ex),al] 31)).alloc (.cells #[.string s',.slice A' n' c'] 24))=W0 at H0 HK fE HR ⊢
 have i0:=fE.out.cell 0 rfl
 have i1:=fE.out.cell 1 rfl
 go_upto_region 2 with (go_at_call 9;refine (C9.out _ H0.out).mono ?_;rintro e w1 ⟨A5,c5,rfl,hr,hb⟩;have HW:Hid (FiW w (w1.alloc (.cells #[.string s',.slice A5 n5 c5] 24)) pg o s A n c ex al l w1.heap.size s' A5 n5 c5 lc):=⟨(HK.out.after hb).alloc _,Bk.new w1 _ _,(HR.out.after hb).after ((zo _ _).alloc (zu _) _),hr.after ((zo _ _).alloc (zu _) _),(H0.out.trans (hb.mono H0.out.size)).alloc (zt H0.out.size hb.size) _⟩;clear hb hr)
 obtain⟨b5,hb5⟩:∃b,w1.heap.size=b:=⟨_,rfl⟩
 rw[hb5] at HW ⊢
 generalize (w1.alloc (.cells #[.string s',.slice A5 n5 c5] 24))=W1 at HW ⊢
 clear hb5 i0 i1 H0 HK fE HR
 have x0:=HW.out.b0.cell 0 rfl
 have x1:=HW.out.b0.cell 1 rfl
 have x2:=HW.out.b0.cell 2 rfl
 have x3:=HW.out.b0.cell 3 rfl
 have x4:=HW.out.b0.cell 4 rfl
 have x5:=HW.out.b0.cell 5 rfl
 have y0:=HW.out.b5.cell 0 rfl
 have y1:=HW.out.b5.cell 1 rfl
 cases sb
 ·go_wp2_with (go_at_call 22;refine (CS.out _ _ _ HW.out.r0 HW.out.r5).mono ?_;rintro e w2 ⟨rfl,hb⟩;have HW2:=zz (HW.out.after hb);clear hb)
  go_ret
  exact⟨rfl,HW2.out.bl⟩
 ·have hs:=HSB.out
  have HSH:Hid (n=n5∧l.map aY=lc.map aY):=by
   have h1:=(of_decide_eq_true hs).2
   have:=congrArg List.length h1
   rw[List.length_map,List.length_map] at this
   exact⟨by rw[HN.out,← HN5.out,this],h1⟩
  clear hs
  go_upto_region 4 with (go_at_call 22;refine (CS.out _ _ _ HW.out.r0 HW.out.r5).mono ?_;rintro e w2 ⟨rfl,hb⟩;have HW2:=zz (HW.out.after hb);clear hb)
  clear x0 x1 x2 x3 x4 x5 y0 y1
  go_wp2
  go_loopw [6] (fun v wr=>∃k:Nat,v= .int .i64 (k:Int)∧k≤n5∧Hid (∀j,j < k→vg ex l lc j=true)∧Hid (FiW w wr pg o s A n c ex al l b5 s' A5 n5 c5 lc)) (fun v _=>n5 - (intOf v).toNat)
  case atStart=>exact⟨0,rfl,Nat.zero_le _,fun j hj=>absurd hj (Nat.not_lt_zero _),HW2.out⟩
  case round=>
   obtain⟨k,rfl,hk,hr,hw⟩:=hrel
   have x0:=hw.out.b0.cell 0 rfl
   have x1:=hw.out.b0.cell 1 rfl
   have x2:=hw.out.b0.cell 2 rfl
   have x3:=hw.out.b0.cell 3 rfl
   have x4:=hw.out.b0.cell 4 rfl
   have x5:=hw.out.b0.cell 5 rfl
   have y0:=hw.out.b5.cell 0 rfl
   have y1:=hw.out.b5.cell 1 rfl
   by_cases ati:k < n5
   ·have hlt:k < n:=by rw[HSH.out.1];exact ati
    have hk1:k < l.length:=by rw[← HN.out];exact hlt
    have hk2:k < lc.length:=by rw[HN5.out];exact ati
    obtain⟨a,ha⟩:∃a,l[k]? =some a:=⟨_,List.getElem?_eq_getElem hk1⟩
    obtain⟨b,hb⟩:∃b,lc[k]? =some b:=⟨_,List.getElem?_eq_getElem hk2⟩
    obtain⟨q,off,rfl,_,_,_,c2⟩:=hw.out.r0.o3 ha
    obtain⟨q',off',rfl,_,_,_,d2⟩:=hw.out.r5.o3 hb
    have lW:=(H64.out b (List.mem_of_getElem? hb)).2.2
    have HF:Hid (vg ex l lc k=if gB ex l k=0 then decide (a.2.2=b.2.2) else qU (uW (gB ex l k)).1 (uW (gB ex l k)).2 b.2.2):=by
     show _=_
     unfold vg
     rw[bJ ha,bJ hb]
    have HY:Hid (vg ex l lc k=false→false=sU ex l lc):=anE hk2
    have HZ:Hid (vg ex l lc k=true→∀j,j < k+1→vg ex l lc j=true):=fun e j hj=>by
     by_cases hjk:j=k
     ·subst hjk;exact e
     ·exact hr.out j (by omega)
    clear ha hb
    generalize a.2.2=a2 at c2 HF
    generalize b.2.2=b2 at d2 HF lW
    have HM:=Jd ex l k
    have CW:Hid (∀W,gB ex l k∈cO→Calls Tryz.prog 49 #[.int .u8 (gB ex l k:Int),.int .i64 b2] W fun e w'=>e= .returned (.bool (qU (uW (gB ex l k)).1 (uW (gB ex l k)).2 b2))∧W=w'):=fun W ht=>CI.out W _ b2 ht
    have CLk:Hid (Calls Tryz.prog 48 #[.agg #[pg,o,.string s,.slice (some ⟨q,off,none⟩) n c,.string (aa ex),al],.int .i64 (k:Int)] wr fun e w'=>e= .returned (.int .u8 (gB ex l k))∧Below wr.heap.size wr w'):=CL.out wr k hlt hw.out.bl hw.out.r0
    obtain⟨fb,kU⟩:∃fb,vg ex l lc k=fb:=⟨_,rfl⟩
    rw[kU] at HF HY HZ
    clear kU
    obtain⟨t,ht⟩:∃t,gB ex l k=t:=⟨_,rfl⟩
    rw[ht] at HM CLk CW HF
    clear ht CL CI C9 CS
    rcases HM with rfl | hmem
    ·have HF':Hid (fb=decide (a2=b2)):=HF.out
     clear HF CW
     by_cases heq:a2=b2
     ·subst heq
      have e1:(a2 != a2)=false:=bne_self_eq_false a2
      have kU:fb=true:=by rw[HF'.out];simp
      subst kU
      have HX:=zz (HZ.out rfl)
      clear HY HZ HF'
      go_upto_region 8 with (go_at_call 48;refine CLk.out.mono ?_;rintro e w4 ⟨rfl,hb⟩;have zf:=zz (hw.out.after hb);have v0:=eB hb c2;have v1:=eB hb d2;have v2:=zf.out.b0.cell 3 rfl;have v3:=zf.out.b5.cell 1 rfl;clear hb)
      go_quiet (fail)
      all_goals
       go_wp2
       go_roundw
       case rel=>exact⟨k+1,by go_num,by omega,HX.out,⟨zf.out.b0,zf.out.b5,zf.out.r0,zf.out.r5,zf.out.bl.trans (aU _ _ _)⟩⟩
       case measure=>simp[intOf];omega
     ·have e1:(a2 != b2)=true:=bne_iff_ne.2 heq
      have kU:fb=false:=by rw[HF'.out];simp[heq]
      subst kU
      have HX:=zz (HY.out rfl)
      clear HY HZ HF' heq
      go_upto_region 8 with (go_at_call 48;refine CLk.out.mono ?_;rintro e w4 ⟨rfl,hb⟩;have zf:=zz (hw.out.after hb);have v0:=eB hb c2;have v1:=eB hb d2;have v2:=zf.out.b0.cell 3 rfl;have v3:=zf.out.b5.cell 1 rfl;clear hb)
      go_quiet (fail)
      all_goals
       go_wp2
       go_ret
       exact⟨aQ (by rw[← HX.out];rfl),zf.out.bl.trans (aU _ _ _)⟩
    ·have ht0:t≠0:=fun e=>by subst e;simp[cO] at hmem
     have HF':Hid (qU (uW t).1 (uW t).2 b2=fb):=by
      have:=HF.out
      rw[if_neg ht0] at this
      exact this.symm
     have CV:Hid (∀W,Calls Tryz.prog 49 #[.int .u8 (t:Int),.int .i64 b2] W fun e w'=>e= .returned (.bool fb)∧w'=W):=fun W=>by
      have:=CW.out W hmem
      rw[HF'.out] at this
      exact this.mono fun _ _ h=>⟨h.1,h.2.symm⟩
     have e1:((t:Int) == 0)=false:=by
      rw[beq_eq_false_iff_ne];omega
     have e2:((t:Int) != 0)=true:=by
      rw[bne_iff_ne];omega
     clear HF HF' CW ht0 hmem
     cases fb
     ·have HX:=zz (HY.out rfl)
      clear HY HZ
      go_upto_region 8 with (go_at_call 48;refine CLk.out.mono ?_;rintro e w4 ⟨rfl,hb⟩;have zf:=zz (hw.out.after hb);have v0:=eB hb c2;have v1:=eB hb d2;have v2:=zf.out.b0.cell 3 rfl;have v3:=zf.out.b5.cell 1 rfl;clear hb)
      go_quiet ((go_at_call 49;exact Calls.quiet_of_same (CV.out _)))
      all_goals
       go_wp2
       go_ret
       exact⟨aQ (by rw[← HX.out];rfl),zf.out.bl.trans (aU _ _ _)⟩
     ·have HX:=zz (HZ.out rfl)
      clear HY HZ
      go_upto_region 8 with (go_at_call 48;refine CLk.out.mono ?_;rintro e w4 ⟨rfl,hb⟩;have zf:=zz (hw.out.after hb);have v0:=eB hb c2;have v1:=eB hb d2;have v2:=zf.out.b0.cell 3 rfl;have v3:=zf.out.b5.cell 1 rfl;clear hb)
      go_quiet ((go_at_call 49;exact Calls.quiet_of_same (CV.out _)))
      all_goals
       go_wp2
       go_roundw
       case rel=>exact⟨k+1,by go_num,by omega,HX.out,⟨zf.out.b0,zf.out.b5,zf.out.r0,zf.out.r5,zf.out.bl.trans (aU _ _ _)⟩⟩
       case measure=>simp[intOf];omega
   ·have HX:Hid (true=sU ex l lc):=anD fun j hj=>hr.out j (by rw[HN5.out] at hj;omega)
    go_wp2
    go_ret
    exact⟨aQ (by rw[← HX.out];rfl),hw.out.bl⟩
end Go.Proofs.YtceaodnohnekkaaGreatDoor
