/- The walks of read and First of the decoder, at the bytes of an entry of the table and whatever follows. -/
import Derived.Test.YtceaodnohnekkaaGreatDoorMK4
import Derived.Test.YtceaodnohnekkaaGreatDoorMMb
namespace Go.Proofs.YtceaodnohnekkaaGreatDoor
open Go.RowKit Ex
structure ItC (p o:Nat)(d:aJ)(dv nv:Int)(V:List Value)(a1:Nat):Prop where
 p6:p≤6
 o8:o < 256
 hd:gL p o=some d
 hk:d.1=1
 hdv:pK (mP d) dv=true
 hnv:pK (oW d) nv=true
 it:ItH p o d.2.2.1 dv nv V a1
 one:∀u∈V,u.oneCell'=true
 ha1:1≤a1
 haN:a1≤V.length
 hm:V.length≤1000
def aud (d:aJ)(dv nv:Int)(V:List Value)(a1:Nat)(w:World)(e:Ending)(w':World):Prop:=∃A' c' A'' c'' x,e= .returned (.tuple #[.agg #[.int .i64 1,.slice A' a1 c',.string (aa d.2.1),.slice A'' (opsL d.2.2.2.2).length c'',.bool d.2.2.2.1],x])∧Rd w' (fun i=>w.heap.size≤i) A' (V.take a1)∧Rd w' (fun _=>True) A'' (bE (mr (mP d) (oW d) (opsL d.2.2.2.2) dv nv))∧Below w.heap.size w w'
set_option maxHeartbeats 8000000 in
set_option maxRecDepth 100000 in
theorem Zn {w:World}(hG:gJ w){p o:Nat}{d:aJ}{dv nv:Int}{V:List Value}{a1:Nat}(h:ItC p o d dv nv V a1)(A:Option Addr)(N c:Nat)(hN:V.length=N)(hc:N≤c)(q:Nat→Prop)(hr:Rd w q A V):
 Calls Tryz.prog 24 #[.slice A N c] w fun e w'=>aud d dv nv V a1 w e w':=by
 have CI:=zz (fun W bx (hb:Bk W bx 103 (gX A N c 0 (.slice none 0 0) (.int .i64 0) (.int .u8 0) (.string ⟨#[]⟩) (.slice none 0 0) (.string ⟨#[]⟩) (.bool false) 0 0)) (hbx:w.heap.size≤bx) (hb0:Below w.heap.size w W)=>abI hG p o d h.p6 h.o8 h.hd h.hk dv nv h.hdv h.hnv V a1 h.it h.one A N c hN (by have:=h.hm;omega) hc h.ha1 (by have:=h.haN;omega) bx W q hb hbx hb0 hr)
 have h0:¬((N:Int)=0):=by have h1:=h.ha1;have h2:=h.haN;omega
 have hb0:((N:Int) == 0)=false:=by simpa using h0
 have hmf:∀(fn:Fn) (first cap:Array Value) (w:World),(Instr.makeFunc fn first cap).run Tryz.prog w= .ok (.func fn first cap) w:=fun _ _ _ _=>rfl
 clear h hN hc hr hG
 have HB0:Hid (Below w.heap.size w ((((w.alloc (.cells #[.slice A N c] 25)).alloc (.cells #[.int .i64 0,.slice none 0 0,.string ⟨#[]⟩,.slice none 0 0,.bool false] 35)).alloc (.cells #[.pointer (some ⟨w.heap.size+1+1+1,0,none⟩)] 59)).alloc (.cells #[.slice A N c,.int .i64 0,.slice none 0 0,.int .i64 0,.int .u8 0,.string ⟨#[]⟩,.slice none 0 0,.string ⟨#[]⟩,.bool false,.int .i64 0,.int .i64 0] 103))):=zz ((((zo _ _).alloc (zu _) _).alloc (by simp) _).alloc (by simp;omega) _ |>.alloc (by simp;omega) _)
 have KO:Hid (Bk ((((w.alloc (.cells #[.slice A N c] 25)).alloc (.cells #[.int .i64 0,.slice none 0 0,.string ⟨#[]⟩,.slice none 0 0,.bool false] 35)).alloc (.cells #[.pointer (some ⟨w.heap.size+1+1+1,0,none⟩)] 59)).alloc (.cells #[.slice A N c,.int .i64 0,.slice none 0 0,.int .i64 0,.int .u8 0,.string ⟨#[]⟩,.slice none 0 0,.string ⟨#[]⟩,.bool false,.int .i64 0,.int .i64 0] 103)) (w.heap.size+1) 35 [.int .i64 0,.slice none 0 0,.string ⟨#[]⟩,.slice none 0 0,.bool false]):=zz (by
  have:=((Bk.new (w.alloc (.cells #[.slice A N c] 25)) 35 [.int .i64 0,.slice none 0 0,.string ⟨#[]⟩,.slice none 0 0,.bool false]).alloc (.cells #[.pointer (some ⟨w.heap.size+1+1+1,0,none⟩)] 59)).alloc (.cells #[.slice A N c,.int .i64 0,.slice none 0 0,.int .i64 0,.int .u8 0,.string ⟨#[]⟩,.slice none 0 0,.string ⟨#[]⟩,.bool false,.int .i64 0,.int .i64 0] 103)
  rwa [World.size_alloc] at this)
 have KX:Hid (Bk ((((w.alloc (.cells #[.slice A N c] 25)).alloc (.cells #[.int .i64 0,.slice none 0 0,.string ⟨#[]⟩,.slice none 0 0,.bool false] 35)).alloc (.cells #[.pointer (some ⟨w.heap.size+1+1+1,0,none⟩)] 59)).alloc (.cells #[.slice A N c,.int .i64 0,.slice none 0 0,.int .i64 0,.int .u8 0,.string ⟨#[]⟩,.slice none 0 0,.string ⟨#[]⟩,.bool false,.int .i64 0,.int .i64 0] 103)) (w.heap.size+1+1) 59 [.pointer (some ⟨w.heap.size+1+1+1,0,none⟩)]):=zz (by
  have:=(Bk.new ((w.alloc (.cells #[.slice A N c] 25)).alloc (.cells #[.int .i64 0,.slice none 0 0,.string ⟨#[]⟩,.slice none 0 0,.bool false] 35)) 59 [.pointer (some ⟨w.heap.size+1+1+1,0,none⟩)]).alloc (.cells #[.slice A N c,.int .i64 0,.slice none 0 0,.int .i64 0,.int .u8 0,.string ⟨#[]⟩,.slice none 0 0,.string ⟨#[]⟩,.bool false,.int .i64 0,.int .i64 0] 103)
  rwa [World.size_alloc,World.size_alloc] at this)
 have KD:Hid (Bk ((((w.alloc (.cells #[.slice A N c] 25)).alloc (.cells #[.int .i64 0,.slice none 0 0,.string ⟨#[]⟩,.slice none 0 0,.bool false] 35)).alloc (.cells #[.pointer (some ⟨w.heap.size+1+1+1,0,none⟩)] 59)).alloc (.cells #[.slice A N c,.int .i64 0,.slice none 0 0,.int .i64 0,.int .u8 0,.string ⟨#[]⟩,.slice none 0 0,.string ⟨#[]⟩,.bool false,.int .i64 0,.int .i64 0] 103)) (w.heap.size+1+1+1) 103 (gX A N c 0 (.slice none 0 0) (.int .i64 0) (.int .u8 0) (.string ⟨#[]⟩) (.slice none 0 0) (.string ⟨#[]⟩) (.bool false) 0 0)):=zz (by
  have:=Bk.new (((w.alloc (.cells #[.slice A N c] 25)).alloc (.cells #[.int .i64 0,.slice none 0 0,.string ⟨#[]⟩,.slice none 0 0,.bool false] 35)).alloc (.cells #[.pointer (some ⟨w.heap.size+1+1+1,0,none⟩)] 59)) 103 (gX A N c 0 (.slice none 0 0) (.int .i64 0) (.int .u8 0) (.string ⟨#[]⟩) (.slice none 0 0) (.string ⟨#[]⟩) (.bool false) 0 0)
  rwa [World.size_alloc,World.size_alloc,World.size_alloc] at this)
 go_enter_defers Tryz.func24,Tryz.ntmps24
 go_upto_region 5 with fail
 generalize ((((w.alloc (.cells #[.slice A N c] 25)).alloc (.cells #[.int .i64 0,.slice none 0 0,.string ⟨#[]⟩,.slice none 0 0,.bool false] 35)).alloc (.cells #[.pointer (some ⟨w.heap.size+1+1+1,0,none⟩)] 59)).alloc (.cells #[.slice A N c,.int .i64 0,.slice none 0 0,.int .i64 0,.int .u8 0,.string ⟨#[]⟩,.slice none 0 0,.string ⟨#[]⟩,.bool false,.int .i64 0,.int .i64 0] 103))=W0 at HB0 KO KX KD ⊢
 obtain⟨bo,Xc⟩:∃b,w.heap.size+1=b:=⟨_,rfl⟩
 obtain⟨bp,hbp⟩:∃b,bo+1=b:=⟨_,rfl⟩
 obtain⟨bd,hbd⟩:∃b,bp+1=b:=⟨_,rfl⟩
 rw[Xc] at KO KX KD ⊢
 rw[hbp] at KX KD ⊢
 rw[hbd] at KX KD ⊢
 have HN:=zz (show w.heap.size < bo∧bo < bp∧bp < bd by omega)
 clear Xc hbp hbd
 have WV:=zz (aM HB0.out)
 have KOd:=zz KO.out.drew
 have KXd:=zz KX.out.drew
 have CIx:=zz (CI.out _ bd KD.out.drew (by have:=HN.out;omega) WV.out)
 clear CI KD KO KX HB0 hb0
 refine wp_region_noPanic ?_
 refine wp_region_held_drew (S:=fun w'=>w'.cell? ⟨bp,0,none⟩=some (.pointer (some ⟨bd,0,none⟩))) (by kernel_rfl) (KXd.out.cell 0 rfl) (fun hHeld=>?_)
 refine wpAnyH_take (i:=0) (oi:={ dst:=some 14,op:=.load 59 (.tmp 3),type:=59,pos:= "decode.go:109",after:=#[],guard:=none}) (v:=?_) rfl (by kernel_rfl) (by kernel_rfl) (by kernel_rfl) (fun _ _ _ h=>h) (Or.inl ⟨by rfl,?_⟩) (by assumption) ?_
 rotate_left
 ·(intro w hSw;(try dsimp only at hSw);go_simp) <;> with_reducible rfl
 try simp only[Act.put,List.setIfInBounds_toArray,List.set_cons_zero,List.set_cons_succ]
 refine wpAnyH_take (i:=2) (oi:={ dst:=some 16,op:=.load 59 (.tmp 3),type:=59,pos:= "decode.go:109",after:=#[],guard:=none}) (v:=?_) rfl (by kernel_rfl) (by kernel_rfl) (by kernel_rfl) (fun _ _ _ h=>h) (Or.inl ⟨by rfl,?_⟩) (by assumption) ?_
 rotate_left
 ·(intro w hSw;(try dsimp only at hSw);go_simp) <;> with_reducible rfl
 try simp only[Act.put,List.setIfInBounds_toArray,List.set_cons_zero,List.set_cons_succ]
 refine wpAnyH_ready (rs:=[1]) (by kernel_rfl) (by simp) ?_
 refine AllReadyH.cons (o:={ dst:=some 15,op:=.call { callee:=.value (.func 52),args:=#[.tmp 14],argTypes:=#[59]},type:=35,pos:= "decode.go:109",after:=#[{ on:=0,ground:=.data}],guard:=none}) rfl (fun K hK=>?_) AllReadyH.nil
 go_simp
 go_at_call 52
 refine CIx.out.mono ?_
 rintro e w1 ⟨A1,c1,A2,c2,rfl,hr1,hr2,hg⟩
 have KO1:Hid (Bk w1 bo 35 [.int .i64 0,.slice none 0 0,.string ⟨#[]⟩,.slice none 0 0,.bool false]):=zz ((hg.block bo KOd.out.lt fun e=>by have h1:=HN.out;have h2:bo=bd:=zx e;omega).trans KOd.out)
 have KX1:Hid (Bk w1 bp 59 [.pointer (some ⟨bd,0,none⟩)]):=zz ((hg.block bp KXd.out.lt fun e=>by have h1:=HN.out;have h2:bp=bd:=zx e;omega).trans KXd.out)
 have HB1:=zz (WV.out.grown hg WV.out.size fun k e=>by have h1:=HN.out;have h2:bd=k:=zx e;omega)
 have HR1:=zz (zy hr1 hr2)
 refine hK.out _ _ (KX1.out.cell 0 rfl) (fun iI=>?_)
 clear hK K hHeld hr1 hr2 hg
 try simp only[Act.put,List.setIfInBounds_toArray,List.set_cons_zero,List.set_cons_succ]
 refine wpAnyH_ready (rs:=[3]) (by kernel_rfl) (by simp) ?_
 refine AllReadyH.cons (o:={ dst:=none,op:=.store 35 (.tmp 2) (.tmp 15),type:=0,pos:= "decode.go:109",after:=#[{ on:=1,ground:=.data},{ on:=1,ground:=.chain},{ on:=0,ground:=.phase},{ on:=1,ground:=.phase},{ on:=2,ground:=.textOnly .lateStoresUnsure}],guard:=none}) rfl (fun K hK=>?_) AllReadyH.nil
 refine oZ (o:=_) rfl 35 (.tmp 2) (.tmp 15) rfl bo 0 [.int .i64 1,.slice A1 a1 c1,.string (aa d.2.1),.slice A2 (opsL d.2.2.2.2).length c2,.bool d.2.2.2.1] rfl rfl 35 _ KO1.out rfl (by simp) (by simp[Value.oneCell']) ?_
 intro w2 hk2 hg2
 have KX2:Hid (Bk w2 bp 59 [.pointer (some ⟨bd,0,none⟩)]):=zz ((hg2.block bp KX1.out.lt fun e=>by have h1:=HN.out;have h2:bp=bo:=zx e;omega).trans KX1.out)
 have kE:=zz hk2
 have HG2:=zz hg2
 refine hK.out _ _ (KX2.out.cell 0 rfl) (fun pY=>?_)
 clear hK K iI hk2 hg2
 try simp only[Act.put]
 refine wpAnyH_ready (rs:=[4]) (by kernel_rfl) (by simp) ?_
 refine AllReadyH.cons (o:={ dst:=none,op:=.store 59 (.tmp 3) (.tmp 16),type:=0,pos:= "decode.go:109",after:=#[{ on:=2,ground:=.data},{ on:=3,ground:=.chain},{ on:=0,ground:=.phase},{ on:=1,ground:=.phase},{ on:=2,ground:=.phase},{ on:=3,ground:=.phase}],guard:=none}) rfl (fun K hK=>?_) AllReadyH.nil
 have z0:=KX2.out.cell 0 rfl
 have z1:=KX2.out.frozen 0
 go_simp
 refine hK.out _ _ ((KX2.out.set 0 _).cell 0 rfl) (fun ant=>?_)
 clear hK K pY ant
 refine wpAnyH_done (by kernel_rfl) ?_ _
 refine NoPanic.normal ?_
 have KX3:Hid (Bk (w2.setCell ⟨bp,0,none⟩ (.pointer (some ⟨bd,0,none⟩))) bp 59 [.pointer (some ⟨bd,0,none⟩)]):=zz (KX2.out.set 0 _)
 have KO3:=zz (kE.out.other (p:=⟨bp,0,none⟩) (by have h1:=HN.out;show bo≠bp;omega) (.pointer (some ⟨bd,0,none⟩)))
 have HG3:=zz (kz w2 bp 0 (.pointer (some ⟨bd,0,none⟩)))
 generalize w2.setCell ⟨bp,0,none⟩ (.pointer (some ⟨bd,0,none⟩))=w3 at KX3 KO3 HG3 ⊢
 clear z0 z1
 have y0:=KO3.out.cell 0 rfl
 have y1:=KO3.out.cell 1 rfl
 have y2:=KO3.out.cell 2 rfl
 have y3:=KO3.out.cell 3 rfl
 have y4:=KO3.out.cell 4 rfl
 have y5:=KX3.out.cell 0 rfl
 go_wp2
 refine leaves_cons (f:=50) (args:=#[.pointer (some ⟨bp,0,none⟩),.pointer (some ⟨w.heap.size,0,none⟩),.pointer (some ⟨bo,0,none⟩)]) (by simp) (by simp[go_sem]) ?_
 refine (Us _ _ _ w3).mono ?_
 rintro e u' w'' ⟨rfl,rfl,rfl⟩
 refine⟨.tuple #[.agg #[.int .i64 1,.slice A1 a1 c1,.string (aa d.2.1),.slice A2 (opsL d.2.2.2.2).length c2,.bool d.2.2.2.1],.pointer (some ⟨bd,0,none⟩)],by simp[results,Tryz.results24,go_sem,y0,y1,y2,y3,y4,y5],A1,c1,A2,c2,_,rfl,?_,?_,?_⟩
 ·have h1:=KXd.out.lt
  have h2:=HN.out
  have r1:=HR1.out.1.keep (w':=w2) fun i _ hi=>HG2.out.block i (by assumption) fun e=>by have h3:i=bo:=zx e;omega
  have r2:=r1.keep (w':=w'') fun i _ hi=>HG3.out.block i (by assumption) fun e=>by have h3:i=bp:=zx e;omega
  have h4:=WV.out.size
  exact r2.mono fun _ _ h=>zt h4 h
 ·have r1:=((MW HR1.out.2 KO1.out).keep (w':=w2) fun i h hi=>HG2.out.block i h fun e=>hi (zx e))
  have r2:=((amM r1 KX2.out).keep (w':=w'') fun i h hi=>HG3.out.block i h fun e=>hi (zx e))
  exact r2.mono fun _ _ _=>trivial
 ·exact (HB1.out.grown HG2.out HB1.out.size fun k e=>by have h1:=HN.out;have h2:bo=k:=zx e;omega).grown HG3.out (zt HB1.out.size HG2.out.size) fun k e=>by have h1:=HN.out;have h2:bp=k:=zx e;omega
def aeD (d:aJ)(dv nv:Int)(V:List Value)(a1:Nat)(w:World)(e:Ending)(w':World):Prop:=∃A' c' A'' c'',e= .returned (.agg #[.int .i64 1,.slice A' a1 c',.string (aa d.2.1),.slice A'' (opsL d.2.2.2.2).length c'',.bool d.2.2.2.1])∧Rd w' (fun _=>True) A' (V.take a1)∧Rd w' (fun _=>True) A'' (bE (mr (mP d) (oW d) (opsL d.2.2.2.2) dv nv))∧Below w.heap.size w w'
set_option maxHeartbeats 8000000 in
set_option maxRecDepth 100000 in
theorem NG {w:World}(hG:gJ w){p o:Nat}{d:aJ}{dv nv:Int}{V:List Value}{a1:Nat}(h:ItC p o d dv nv V a1)(A:Option Addr)(N c:Nat)(hN:V.length=N)(hc:N≤c)(q:Nat→Prop)(hr:Rd w q A V):
 Calls Tryz.prog 7 #[.slice A N c] w fun e w'=>aeD d dv nv V a1 w e w':=by
 have Xc:=(zo w.heap.size w).alloc (zu _) (.cells #[.int .i64 0,.slice none 0 0,.string ⟨#[]⟩,.slice none 0 0,.bool false] 35)
 have HB0:=zz Xc
 have KO:=zz (Bk.new w 35 [.int .i64 0,.slice none 0 0,.string ⟨#[]⟩,.slice none 0 0,.bool false])
 have CRd:=zz (Zn (hG.after Xc) h A N c hN hc q (hr.after Xc))
 clear h hN hc hr hG Xc
 go_enter Tryz.func7,Tryz.ntmps7
 go_upto_region 2 with (go_at_call 24;refine CRd.out.mono ?_;rintro e w1 ⟨A1,c1,A2,c2,x,rfl,hr1,hr2,hb⟩;have KO1:=zz (KO.out.after hb);have HB1:=zz (HB0.out.trans (hb.mono HB0.out.size));have HR1:=zz (zy hr1 hr2);clear hb hr1 hr2)
 have hb2:=(zo w1.heap.size w1).alloc (zu _) (.cells #[.int .i64 1,.slice A1 a1 c1,.string (aa d.2.1),.slice A2 (opsL d.2.2.2.2).length c2,.bool d.2.2.2.1] 35)
 have KN:Hid (Bk (w1.alloc (.cells #[.int .i64 1,.slice A1 a1 c1,.string (aa d.2.1),.slice A2 (opsL d.2.2.2.2).length c2,.bool d.2.2.2.1] 35)) w1.heap.size 35 [.int .i64 1,.slice A1 a1 c1,.string (aa d.2.1),.slice A2 (opsL d.2.2.2.2).length c2,.bool d.2.2.2.1]):=zz (Bk.new w1 _ _)
 have KO2:=zz (KO1.out.after hb2)
 have HB2:=zz (HB1.out.trans (hb2.mono HB1.out.size))
 have HR2:=zz (zy (HR1.out.1.after hb2) (HR1.out.2.after hb2))
 have HL2:=zz (show w.heap.size≠w1.heap.size from Nat.ne_of_lt KO1.out.lt)
 generalize w1.alloc (.cells #[.int .i64 1,.slice A1 a1 c1,.string (aa d.2.1),.slice A2 (opsL d.2.2.2.2).length c2,.bool d.2.2.2.1] 35)=W2 at KN KO2 HB2 HR2 ⊢
 generalize w1.heap.size=bn at KN HL2 ⊢
 clear hb2 HR1 KO1 HB1 KO HB0 CRd
 obtain⟨bo,Xc⟩:∃b,w.heap.size=b:=⟨_,rfl⟩
 have HBO:=zz Xc
 rw[Xc] at KO2 HL2
 rw[Xc]
 have u0:=KN.out.cell 0 rfl
 have u1:=KN.out.cell 1 rfl
 have u2:=KN.out.cell 2 rfl
 have u3:=KN.out.cell 3 rfl
 have u4:=KN.out.cell 4 rfl
 clear Xc
 go_wp2_with (refine iR rfl 35 (.tmp 2) (.tmp 10) rfl bo 0 [.int .i64 1,.slice A1 a1 c1,.string (aa d.2.1),.slice A2 (opsL d.2.2.2.2).length c2,.bool d.2.2.2.1] rfl rfl 35 _ KO2.out rfl (by simp) (by simp[Value.oneCell']) ?_;intro w3 hk3 hg3;have HK3:=zz hk3;have HG3:=zz hg3;clear hk3 hg3)
 have y0:=HK3.out.cell 0 rfl
 have y1:=HK3.out.cell 1 rfl
 have y2:=HK3.out.cell 2 rfl
 have y3:=HK3.out.cell 3 rfl
 have y4:=HK3.out.cell 4 rfl
 refine bodyPost_ret (v:=.agg #[.int .i64 1,.slice A1 a1 c1,.string (aa d.2.1),.slice A2 (opsL d.2.2.2.2).length c2,.bool d.2.2.2.1]) (by simp[Act.put,results,Tryz.results7,go_sem,y0,y1,y2,y3,y4]) rfl ⟨A1,c1,A2,c2,rfl,?_,?_,?_⟩
 ·exact (HR2.out.1.keep fun i h hi=>HG3.out.block i h fun e=>by have h3:i=bo:=zx e;have h4:=HBO.out;rw[World.size_alloc] at hi;omega).mono fun _ _ _=>trivial
 ·exact ((MW HR2.out.2 KO2.out).keep fun i h hi=>HG3.out.block i h fun e=>hi (zx e)).mono fun _ _ _=>trivial
 ·exact HB2.out.grown HG3.out HB2.out.size fun k e=>by have h3:bo=k:=zx e;have h4:=HBO.out;omega
end Go.Proofs.YtceaodnohnekkaaGreatDoor
