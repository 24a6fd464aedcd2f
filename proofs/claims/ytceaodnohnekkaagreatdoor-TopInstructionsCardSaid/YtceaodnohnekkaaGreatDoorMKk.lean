/- The walk of Of of the reference of canon. -/
import Derived.Test.YtceaodnohnekkaaGreatDoorMK3
import Derived.Test.YtceaodnohnekkaaGreatDoorMK4
import Derived.Test.YtceaodnohnekkaaGreatDoorMK11
import Derived.Deep.QuietTactic
import Derived.BigQuiet
import Derived.Deep.DeepCutAuto
namespace Go.Proofs.YtceaodnohnekkaaGreatDoor
open Go.RowKit Ex
structure rU (w W:World)(s:ByteArray)(A:Option Addr)(n c:Nat)(A4:Option Addr)(L:List ay):Prop where
 b0:Bk W w.heap.size 24 [.string s,.slice A n c]
 b1:Bk W (w.heap.size+1) 24 [.string ⟨#[]⟩,.slice none 0 0]
 b2:Bk W (w.heap.size+2) 65 [.int .i64 1,.int .i64 7,.int .i64 0]
 ow:Ow W (w.heap.size+3) A4 L
 bl:Below w.heap.size w W
 sz:w.heap.size+3≤W.heap.size
theorem rU.after {w W W':World}{s:ByteArray}{A A4:Option Addr}{n c:Nat}{L:List ay}(h:rU w W s A n c A4 L)(hb:Below W.heap.size W W'):rU w W' s A n c A4 L:=
 ⟨h.b0.after hb,h.b1.after hb,h.b2.after hb,h.ow.after hb,h.bl.trans (hb.mono (by have:=h.sz;omega)),zt h.sz hb.size⟩
def of3 (w:World)(s:ByteArray)(A:Option Addr)(n c:Nat):World:=((w.alloc (.cells #[.string s,.slice A n c] 24)).alloc (.cells #[.string ⟨#[]⟩,.slice none 0 0] 24)).alloc (.cells #[.int .i64 1,.int .i64 7,.int .i64 0] 65)
theorem ZQ (w:World)(s:ByteArray)(A:Option Addr)(n c:Nat):(of3 w s A n c).heap.size=w.heap.size+1+1+1:=by simp only[of3,World.size_alloc]
theorem amL (w:World)(s:ByteArray)(A:Option Addr)(n c:Nat):rU w (of3 w s A n c) s A n c none []:=by
 refine⟨((Bk.new w _ _).alloc _).alloc _,?_,?_,Ow.nil _ _ _,(((zo _ _).alloc (zu _) _).alloc (by simp) _).alloc (by simp only[World.size_alloc];omega) _,by rw[ZQ];omega⟩
 ·have:=(Bk.new (w.alloc (.cells #[.string s,.slice A n c] 24)) 24 [.string ⟨#[]⟩,.slice none 0 0]).alloc (.cells #[.int .i64 1,.int .i64 7,.int .i64 0] 65)
  rwa [World.size_alloc] at this
 ·have:=Bk.new ((w.alloc (.cells #[.string s,.slice A n c] 24)).alloc (.cells #[.string ⟨#[]⟩,.slice none 0 0] 24)) 65 [.int .i64 1,.int .i64 7,.int .i64 0]
  rwa [World.size_alloc,World.size_alloc] at this
theorem amK {w W3 w1:World}{s:ByteArray}{A A0:Option Addr}{n c:Nat}{l l0:List ay}{v:Value}(h3:rU w W3 s A n c A0 l0)(ho:w1.ownsRow W3.heap.size 65 3 v n (bE l))(hb:Below W3.heap.size W3 w1):∃A4 c4,v= .slice A4 n c4∧n≤c4∧rU w w1 s A n c A4 l:=by
 obtain⟨A4,c4,rfl,hc,_⟩:=jB ho
 have h:=h3.after hb
 exact⟨A4,c4,rfl,hc,h.b0,h.b1,h.b2,(Ow.sI ho).mono h3.sz,h.bl,h.sz⟩
theorem VE {m:Bool}{l:List ay}(h:gW m l=true):∃a b,l=[a,b]:=by
 unfold gW at h
 match l,h with
 |[a,b],_=>exact⟨a,b,rfl⟩
 |[],h=>simp at h
 |[_],h=>simp at h
 |_::_::_::_,h=>simp at h
theorem agQ {l:List ay}(h:1=l.length):∃a,l=[a]:=by
 match l,h with
 |[a],_=>exact⟨a,rfl⟩
theorem OM (w:World)(B:Nat)(hB:B≤w.heap.size)(x y:ay):Ow (w.alloc (.cells #[.int .i64 x.1,.int .i64 x.2.1,.int .i64 x.2.2,.int .i64 y.1,.int .i64 y.2.1,.int .i64 y.2.2] 65)) B (some ⟨w.heap.size,0,none⟩) [x,y]:=fun _=>⟨_,0,_,_,rfl,hB,heap_alloc_new w _,rfl⟩
theorem rU.awQ {w W:World}{s:ByteArray}{A A4:Option Addr}{n c:Nat}{L:List ay}(h:rU w W s A n c A4 L)(x y:ay):rU w ((W.alloc (.cells #[.int .i64 x.1,.int .i64 x.2.1,.int .i64 x.2.2,.int .i64 y.1,.int .i64 y.2.1,.int .i64 y.2.2] 65)).drew) s A n c (some ⟨W.heap.size,0,none⟩) [x,y]:=by
 have hs:=h.sz
 have h1:=h.after ((zo _ _).alloc (zu _) (.cells #[.int .i64 x.1,.int .i64 x.2.1,.int .i64 x.2.2,.int .i64 y.1,.int .i64 y.2.1,.int .i64 y.2.2] 65))
 exact⟨h1.b0,h1.b1,h1.b2,OM W _ hs x y,aM h1.bl,h1.sz⟩
theorem rU.asz {w W:World}{s:ByteArray}{A A4:Option Addr}{n c:Nat}{L:List ay}(h:rU w W s A n c A4 L)(x y:ay):rU w (W.alloc (.cells #[.int .i64 x.1,.int .i64 x.2.1,.int .i64 x.2.2,.int .i64 y.1,.int .i64 y.2.1,.int .i64 y.2.2] 65)) s A n c (some ⟨W.heap.size,0,none⟩) [x,y]:=by
 have hs:=h.sz
 have h1:=h.after ((zo _ _).alloc (zu _) (.cells #[.int .i64 x.1,.int .i64 x.2.1,.int .i64 x.2.2,.int .i64 y.1,.int .i64 y.2.1,.int .i64 y.2.2] 65))
 exact⟨h1.b0,h1.b1,h1.b2,OM W _ hs x y,h1.bl,h1.sz⟩
theorem ahg (x:Bool)(l:List ay)(n:Nat)(hn:n=l.length):(x=false∧D6 x l=false)∨(x=true∧(((n:Int) == 2)=false∧D6 x l=false∨((n:Int) == 2)=true∧∃a b,l=[a,b]∧(((a.1 == 3)=false∧D6 x l=false)∨((a.1 == 3)=true∧(a.2.1 == 2)=false∧D6 x l=false)∨((a.1 == 3)=true∧(a.2.1 == 2)=true∧(a.2.2 == 0)=false∧D6 x l=false)∨
 ((a.1 == 3)=true∧(a.2.1 == 2)=true∧(a.2.2 == 0)=true∧(((b.1 == 3)=false∧D6 x l=false)∨((b.1 == 3)=true∧(b.2.1 == 1)=false∧D6 x l=false)∨((b.1 == 3)=true∧(b.2.1 == 1)=true∧(b.2.2 == 0)=false∧D6 x l=false)∨((b.1 == 3)=true∧(b.2.1 == 1)=true∧(b.2.2 == 0)=true∧D6 x l=true)))))):=by
 subst hn
 cases x
 ·exact .inl ⟨rfl,rfl⟩
 ·refine .inr ⟨rfl,?_⟩
  match l with
  |[]=>exact .inl ⟨rfl,rfl⟩
  |[a]=>exact .inl ⟨rfl,rfl⟩
  |a::b::d::l=>exact .inl ⟨by simp;omega,rfl⟩
  |[a,b]=>
   refine .inr ⟨rfl,a,b,rfl,?_⟩
   obtain⟨x,y,z⟩:=a
   obtain⟨x',y',z'⟩:=b
   unfold D6
   simp only[beq_iff_eq,beq_eq_false_iff_ne,Prod.mk.injEq,Bool.true_and,Bool.and_eq_true,Bool.and_eq_false_imp,decide_eq_false_iff_not,decide_eq_true_eq]
   omega
theorem VD (m:Bool)(l:List ay)(n:Nat)(hn:n=l.length):(m=false∧gW m l=false)∨(m=true∧(((n:Int) == 2)=false∧gW m l=false∨((n:Int) == 2)=true∧∃a b,l=[a,b]∧(((a.1 == 1)=false∧gW m l=false)∨((a.1 == 1)=true∧(a.2.1 == 7)=false∧gW m l=false)∨((a.1 == 1)=true∧(a.2.1 == 7)=true∧(a.2.2 == 0)=false∧gW m l=false)∨((a.1 == 1)=true∧(a.2.1 == 7)=true∧(a.2.2 == 0)=true∧gW m l=true)))):=by
 subst hn
 cases m
 ·exact .inl ⟨rfl,rfl⟩
 ·refine .inr ⟨rfl,?_⟩
  match l with
  |[]=>exact .inl ⟨rfl,rfl⟩
  |[a]=>exact .inl ⟨rfl,rfl⟩
  |a::b::d::l=>exact .inl ⟨by simp;omega,rfl⟩
  |[a,b]=>
   refine .inr ⟨rfl,a,b,rfl,?_⟩
   obtain⟨x,y,z⟩:=a
   unfold gW
   simp only[beq_iff_eq,beq_eq_false_iff_ne,Prod.mk.injEq,Bool.true_and,decide_eq_false_iff_not,decide_eq_true_eq]
   omega
theorem ZP {w W:World}{s:ByteArray}{A A4:Option Addr}{n c:Nat}{L:List ay}(h:rU w W s A n c A4 L)(m:Nat):rU w (W.drewN m) s A n c A4 L:=⟨h.b0,h.b1,h.b2,h.ow,h.bl.trans (aU _ _ _),h.sz⟩
theorem rU.store {w W:World}{s:ByteArray}{A A4:Option Addr}{n c:Nat}{L L':List ay}(h:rU w W s A n c A4 L){q j:Nat}{u:Value}(hq:w.heap.size+3≤q)(ho:Ow (W.setCell ⟨q,j,none⟩ u) (w.heap.size+3) A4 L'):rU w (W.setCell ⟨q,j,none⟩ u) s A n c A4 L':=
 ⟨h.b0.other (by show w.heap.size≠q;omega) _,h.b1.other (by show w.heap.size+1≠q;omega) _,h.b2.other (by show w.heap.size+2≠q;omega) _,ho,h.bl.setCell (by show w.heap.size≤q;omega) _,by rw[World.size_setCell];exact h.sz⟩
theorem ac7 {d:Bool}{l:List ay}(h:∀o∈l,mQ o):∀o∈mE d l,mQ o:=by
 cases d
 ·exact h
 ·exact fun o ho=>h o (List.mem_of_mem_drop ho)
theorem ahw {d:Bool}{l:List ay}(h:∀o∈l,mQ o):∀o∈vk d l,mQ o:=by
 cases d
 ·exact h
 ·intro o ho
  rcases List.mem_cons.1 ho with rfl | ho
  ·unfold mQ;rw[nz,nD];decide
  ·exact h o ho
theorem aok {d:Bool}{l:List ay}(h:∀o∈l,mQ o):∀o∈Vt d l,mQ o:=by
 cases d
 ·exact h
 ·intro o ho
  simp only[Vt,List.mem_cons,List.not_mem_nil,or_false] at ho
  rcases ho with rfl | rfl <;> (unfold mQ;rw[nz,nD];decide)
theorem Af (nm:List Nat)(l:List ay):dx nm l=0∨dx nm l=1∨dx nm l=2:=by
 unfold dx
 split
 ·exact .inl rfl
 ·split
  ·exact .inr (.inr rfl)
  ·exact .inr (.inl rfl)
set_option maxRecDepth 100000 in
set_option maxHeartbeats 4000000 in
theorem OC (nm:List Nat)(hnm:∀x∈nm,x < 256)(A:Option Addr)(l:List ay)(n c:Nat)(w:World)(p:Nat→Prop)(hn:n=l.length)(hm:l.length≤3)(h64:∀o∈l,mQ o)(h:Rd w p A (bE l)):
 Calls Tryz.prog 9 #[.agg #[.string (aa nm),.slice A n c]] w fun e w'=>∃A' c',e= .returned (.agg #[.string (aa nm),.slice A' (aK nm l).length c'])∧Rd w' (fun _=>True) A' (bE (aK nm l))∧Below w.heap.size w w':=by
 have CWd:Hid (∀W,Below w.heap.size w W→Calls Tryz.prog 27 #[.agg #[.string (aa nm),.slice A n c]] W fun e w'=>e= .returned (.int .i64 (dx nm l:Nat))∧Below W.heap.size W w'):=fun W hb=>Lx nm hnm A l n c W p hn hm (h.after hb)
 have H64:=zz h64
 have HN:=zz hn
 have hni:(n:Int)≤3:=by omega
 have HR:=zz h
 have HM:=zz hm
 have H3:=zz (amL w (aa nm) A n c)
 unfold of3 at H3
 clear h hm hn h64
 go_enter Tryz.func9,Tryz.ntmps9
 go_upto_region 2 with fail
 generalize ((w.alloc (.cells #[.string (aa nm),.slice A n c] 24)).alloc (.cells #[.string ⟨#[]⟩,.slice none 0 0] 24)).alloc (.cells #[.int .i64 1,.int .i64 7,.int .i64 0] 65)=W3 at H3 ⊢
 have HO:Hid ((W3.alloc (.cells #[] 65)).ownsRow W3.heap.size 65 3 (.slice (some ⟨W3.heap.size,0,none⟩) 0 0) 0 []):=World.ownsRow_lit W3 (e:=65) (size:=3) #[] 0 (zu _) (by decide) rfl
 have HB:Hid (Below W3.heap.size W3 (W3.alloc (.cells #[] 65))):=(zo _ _).alloc (zu _) _
 have HA:=zz (HR.out.after (H3.out.bl.trans (HB.out.mono (by have:=H3.out.sz;omega))))
 have x1:=H3.out.b0.cell 1 rfl
 have x2:=(H3.out.b0.alloc (.cells #[] 65)).cell 1 rfl
 go_upto_region 3 with (at_builtin;refine eY ND rfl (.tmp 10) (.tmp 12) rfl W3.heap.size _ 0 [] p A n c (bE l) rfl rfl HO.out (by rw[gZ,HN.out]) HA.out (OQ l) (by simp only[maxLen];omega) (by omega) HB.out.size ?_;intro v' w1 hown1 hg1 Nq h0;obtain⟨A4,c4,rfl,hc4,hw4⟩:=amK H3.out (l:=l) (n:=n) (by simpa using hown1) (HB.out.grown hg1 HB.out.size fun k hk=>(by have e:W3.heap.size=k:=zx hk;omega));clear hown1 hg1 Nq h0)
 have HW:=zz hw4
 have CS:Hid (∀(W:World) (A:Option Addr),Rd W (fun _=>True) A [.string ⟨#[83,85,66]⟩,.string ⟨#[65,78,68]⟩,.string ⟨#[88,79,82]⟩,.string ⟨#[79,82]⟩,.string ⟨#[67,80]⟩]→Calls Tryz.prog 26 #[.slice A 5 5,.string (aa nm)] W fun e w'=>e= .returned (.bool (bU nm jr))∧Below W.heap.size W w'):=fun W A h=>wK afj (by decide) hnm W A (by rw[afo];exact h)
 clear hw4 x1 x2 HO HB HA H3
 have HD:=zz (VD (bU nm jr) l n HN.out)
 obtain⟨m,hms⟩:∃m,bU nm jr=m:=⟨_,rfl⟩
 rw[hms] at CS HD
 have HMS:=zz hms
 clear hms
 have EH:Hid (Below w1.heap.size w1 ((w1.alloc (.cells #[.string ⟨#[83,85,66]⟩,.string ⟨#[65,78,68]⟩,.string ⟨#[88,79,82]⟩,.string ⟨#[79,82]⟩,.string ⟨#[67,80]⟩] 9)).drew)):=aM ((zo _ _).alloc (zu _) _)
 have RS:Hid (Rd ((w1.alloc (.cells #[.string ⟨#[83,85,66]⟩,.string ⟨#[65,78,68]⟩,.string ⟨#[88,79,82]⟩,.string ⟨#[79,82]⟩,.string ⟨#[67,80]⟩] 9)).drew) (fun _=>True) (some ⟨w1.heap.size,0,none⟩) [.string ⟨#[83,85,66]⟩,.string ⟨#[65,78,68]⟩,.string ⟨#[88,79,82]⟩,.string ⟨#[79,82]⟩,.string ⟨#[67,80]⟩]):=Rd.new (p:=fun _=>True) w1 #[.string ⟨#[83,85,66]⟩,.string ⟨#[65,78,68]⟩,.string ⟨#[88,79,82]⟩,.string ⟨#[79,82]⟩,.string ⟨#[67,80]⟩] 9 trivial
 go_cut [29] (fun s29 wx=>s29= .bool (gW m l)∧Hid (rU w wx (aa nm) A n c A4 l))
 case first=>
  have x0:=HW.out.b0.cell 0 rfl
  rcases HD.out with⟨rfl,hd⟩ | ⟨rfl,⟨h2,hd⟩ | ⟨h2,a,b,rfl,hd⟩⟩ <;> clear HD
  ·have HX:=zz hd
   clear hd
   refine wp_region_held_drew (S:=fun w'=>w'.cell? ⟨w.heap.size,0,none⟩=some (.string (aa nm))) (by kernel_rfl) (HW.out.b0.drew.cell 0 rfl) (fun hHeld=>?_)
   refine wpAnyH_take (i:=1) (oi:={ dst:=some 15,op:=.fieldAddr 24 (.tmp 1) 0,type:=0,pos:= "ref.go:34",after:=#[],guard:=none}) (v:=?_) rfl (by kernel_rfl) (by kernel_rfl) (by kernel_rfl) (fun _ _ _ h=>h) (Or.inl ⟨by rfl,?_⟩) (by assumption) ?_
   rotate_left
   ·(intro w hSw;(try dsimp only at hSw);go_simp) <;> with_reducible rfl
   try simp only[Act.put,List.setIfInBounds_toArray,List.set_cons_zero,List.set_cons_succ]
   refine wpAnyH_take (i:=2) (oi:={ dst:=some 16,op:=.load 9 (.tmp 15),type:=9,pos:= "ref.go:34",after:=#[{ on:=1,ground:=.data}],guard:=none}) (v:=?_) rfl (by kernel_rfl) (by kernel_rfl) (by kernel_rfl) (fun _ _ _ h=>h) (Or.inl ⟨by rfl,?_⟩) (by assumption) ?_
   rotate_left
   ·(intro w hSw;(try dsimp only at hSw);go_simp) <;> with_reducible rfl
   try simp only[Act.put,List.setIfInBounds_toArray,List.set_cons_zero,List.set_cons_succ]
   refine wpAnyH_ready (rs:=[0]) (by kernel_rfl) (by simp) ?_
   refine AllReadyH.cons (o:={ dst:=some 14,op:=.buildSlice 67 5 #[(0,.const (.string ⟨#[83,85,66]⟩)),(1,.const (.string ⟨#[65,78,68]⟩)),(2,.const (.string ⟨#[88,79,82]⟩)),(3,.const (.string ⟨#[79,82]⟩)),(4,.const (.string ⟨#[67,80]⟩))],type:=67,pos:= "ref.go:34",after:=#[],guard:=none}) rfl (fun K hK=>?_) AllReadyH.nil
   go_simp
   refine hK.out _ _ ((HW.out.after EH.out).b0.cell 0 rfl) (fun iI=>?_)
   clear hK K hHeld
   try simp only[Act.put,List.setIfInBounds_toArray,List.set_cons_zero,List.set_cons_succ]
   refine wpAnyH_ready (rs:=[3]) (by kernel_rfl) (by simp) ?_
   refine AllReadyH.cons (o:={ dst:=some 17,op:=.call { callee:=.value (.func 26),args:=#[.tmp 14,.tmp 16],argTypes:=#[67,9]},type:=4,pos:= "ref.go:34",after:=#[{ on:=0,ground:=.data},{ on:=2,ground:=.data}],guard:=none}) rfl (fun K hK=>?_) AllReadyH.nil
   go_simp
   go_at_call 26
   refine (CS.out _ _ RS.out).mono ?_
   rintro e w2 ⟨rfl,hb⟩
   have HW2:=zz (HW.out.after (EH.out.trans (hb.mono EH.out.size)))
   have y0:=HW2.out.b0.cell 0 rfl
   clear hb
   refine hK.out _ _ y0 (fun pY=>?_)
   clear hK K iI
   try simp only[Act.put,List.setIfInBounds_toArray,List.set_cons_zero,List.set_cons_succ]
   refine wpAnyH_take (i:=4) (oi:={ dst:=some 18,op:=.move (.tmp 17),type:=4,pos:= "ref.go:34",after:=#[{ on:=3,ground:=.data},{ on:=3,ground:=.chain}],guard:=none}) (v:=?_) rfl (by kernel_rfl) (by kernel_rfl) (by kernel_rfl) (fun _ _ _ h=>h) (Or.inl ⟨by rfl,?_⟩) (by assumption) ?_
   rotate_left
   ·(intro w hSw;(try dsimp only at hSw);go_simp) <;> with_reducible rfl
   try simp only[Act.put,List.setIfInBounds_toArray,List.set_cons_zero,List.set_cons_succ]
   refine F8 (by kernel_rfl) (fun _ _ d _ h=>by cases d <;> exact h) (by assumption) [5,6,7] 8 rfl (by kernel_rfl) ⟨rfl,rfl,rfl,trivial⟩ ?_
   refine wpAnyH_take (i:=8) (oi:={ dst:=some 22,op:=.pick (.tmp 18) (.tmp 21) (.const (.bool false)),type:=4,pos:= "ref.go:34",after:=#[{ on:=4,ground:=.data},{ on:=7,ground:=.data}],guard:=none}) (v:=?_) rfl (by kernel_rfl) (by kernel_rfl) (by kernel_rfl) (fun _ _ _ h=>h) (Or.inl ⟨by rfl,?_⟩) (by assumption) ?_
   rotate_left
   ·(intro w hSw;(try dsimp only at hSw);go_simp) <;> with_reducible rfl
   try simp only[Act.put,List.setIfInBounds_toArray,List.set_cons_zero,List.set_cons_succ]
   refine wpAnyH_take (i:=9) (oi:={ dst:=some 23,op:=.move (.tmp 22),type:=4,pos:= "ref.go:34",after:=#[{ on:=8,ground:=.data},{ on:=4,ground:=.chain}],guard:=none}) (v:=?_) rfl (by kernel_rfl) (by kernel_rfl) (by kernel_rfl) (fun _ _ _ h=>h) (Or.inl ⟨by rfl,?_⟩) (by assumption) ?_
   rotate_left
   ·(intro w hSw;(try dsimp only at hSw);go_simp) <;> with_reducible rfl
   try simp only[Act.put,List.setIfInBounds_toArray,List.set_cons_zero,List.set_cons_succ]
   refine F8 (by kernel_rfl) (fun _ _ d _ h=>by cases d <;> exact h) (by assumption) [10,11,12,13,14] 1 rfl (by kernel_rfl) ⟨rfl,rfl,rfl,rfl,rfl,trivial⟩ ?_
   refine wpAnyH_take (i:=15) (oi:={ dst:=some 29,op:=.pick (.tmp 23) (.tmp 28) (.const (.bool false)),type:=4,pos:= "ref.go:34",after:=#[{ on:=9,ground:=.data},{ on:=14,ground:=.data}],guard:=none}) (v:=?_) rfl (by kernel_rfl) (by kernel_rfl) (by kernel_rfl) (fun _ _ _ h=>h) (Or.inl ⟨by rfl,?_⟩) (by assumption) ?_
   rotate_left
   ·(intro w hSw;(try dsimp only at hSw);go_simp) <;> with_reducible rfl
   try simp only[Act.put,List.setIfInBounds_toArray,List.set_cons_zero,List.set_cons_succ]
   clear pY
   refine wpAnyH_done (by kernel_rfl) ?_ _
   all_goals
    go_wp2
    go_meet
    exact⟨by rw[HX.out],HW2.out⟩
  ·have HX:=zz hd
   clear hd
   refine wp_region_held_drew (S:=fun w'=>w'.cell? ⟨w.heap.size,0,none⟩=some (.string (aa nm))) (by kernel_rfl) (HW.out.b0.drew.cell 0 rfl) (fun hHeld=>?_)
   refine wpAnyH_take (i:=1) (oi:={ dst:=some 15,op:=.fieldAddr 24 (.tmp 1) 0,type:=0,pos:= "ref.go:34",after:=#[],guard:=none}) (v:=?_) rfl (by kernel_rfl) (by kernel_rfl) (by kernel_rfl) (fun _ _ _ h=>h) (Or.inl ⟨by rfl,?_⟩) (by assumption) ?_
   rotate_left
   ·(intro w hSw;(try dsimp only at hSw);go_simp) <;> with_reducible rfl
   try simp only[Act.put,List.setIfInBounds_toArray,List.set_cons_zero,List.set_cons_succ]
   refine wpAnyH_take (i:=2) (oi:={ dst:=some 16,op:=.load 9 (.tmp 15),type:=9,pos:= "ref.go:34",after:=#[{ on:=1,ground:=.data}],guard:=none}) (v:=?_) rfl (by kernel_rfl) (by kernel_rfl) (by kernel_rfl) (fun _ _ _ h=>h) (Or.inl ⟨by rfl,?_⟩) (by assumption) ?_
   rotate_left
   ·(intro w hSw;(try dsimp only at hSw);go_simp) <;> with_reducible rfl
   try simp only[Act.put,List.setIfInBounds_toArray,List.set_cons_zero,List.set_cons_succ]
   refine wpAnyH_ready (rs:=[0]) (by kernel_rfl) (by simp) ?_
   refine AllReadyH.cons (o:={ dst:=some 14,op:=.buildSlice 67 5 #[(0,.const (.string ⟨#[83,85,66]⟩)),(1,.const (.string ⟨#[65,78,68]⟩)),(2,.const (.string ⟨#[88,79,82]⟩)),(3,.const (.string ⟨#[79,82]⟩)),(4,.const (.string ⟨#[67,80]⟩))],type:=67,pos:= "ref.go:34",after:=#[],guard:=none}) rfl (fun K hK=>?_) AllReadyH.nil
   go_simp
   refine hK.out _ _ ((HW.out.after EH.out).b0.cell 0 rfl) (fun iI=>?_)
   clear hK K hHeld
   try simp only[Act.put,List.setIfInBounds_toArray,List.set_cons_zero,List.set_cons_succ]
   refine wpAnyH_ready (rs:=[3]) (by kernel_rfl) (by simp) ?_
   refine AllReadyH.cons (o:={ dst:=some 17,op:=.call { callee:=.value (.func 26),args:=#[.tmp 14,.tmp 16],argTypes:=#[67,9]},type:=4,pos:= "ref.go:34",after:=#[{ on:=0,ground:=.data},{ on:=2,ground:=.data}],guard:=none}) rfl (fun K hK=>?_) AllReadyH.nil
   go_simp
   go_at_call 26
   refine (CS.out _ _ RS.out).mono ?_
   rintro e w2 ⟨rfl,hb⟩
   have HW2:=zz (HW.out.after (EH.out.trans (hb.mono EH.out.size)))
   have y0:=HW2.out.b0.cell 0 rfl
   clear hb
   refine hK.out _ _ y0 (fun pY=>?_)
   clear hK K iI
   try simp only[Act.put,List.setIfInBounds_toArray,List.set_cons_zero,List.set_cons_succ]
   refine wpAnyH_take (i:=4) (oi:={ dst:=some 18,op:=.move (.tmp 17),type:=4,pos:= "ref.go:34",after:=#[{ on:=3,ground:=.data},{ on:=3,ground:=.chain}],guard:=none}) (v:=?_) rfl (by kernel_rfl) (by kernel_rfl) (by kernel_rfl) (fun _ _ _ h=>h) (Or.inl ⟨by rfl,?_⟩) (by assumption) ?_
   rotate_left
   ·(intro w hSw;(try dsimp only at hSw);go_simp) <;> with_reducible rfl
   try simp only[Act.put,List.setIfInBounds_toArray,List.set_cons_zero,List.set_cons_succ]
   refine wpAnyH_take (i:=5) (oi:={ dst:=some 19,op:=.move (.tmp 4),type:=22,pos:= "ref.go:34",after:=#[{ on:=4,ground:=.guard}],guard:=some (4,true)}) (v:=?_) rfl (by kernel_rfl) (by kernel_rfl) (by kernel_rfl) (fun _ _ _ h=>h) (Or.inl ⟨by rfl,?_⟩) (by assumption) ?_
   rotate_left
   ·(intro w hSw;(try dsimp only at hSw);go_simp) <;> with_reducible rfl
   try simp only[Act.put,List.setIfInBounds_toArray,List.set_cons_zero,List.set_cons_succ]
   refine wpAnyH_take (i:=6) (oi:={ dst:=some 20,op:=.call { callee:=.builtin .len,args:=#[.tmp 19],argTypes:=#[22]},type:=3,pos:= "ref.go:34",after:=#[{ on:=5,ground:=.data},{ on:=4,ground:=.guard}],guard:=some (4,true)}) (v:=?_) rfl (by kernel_rfl) (by kernel_rfl) (by kernel_rfl) (fun _ _ _ h=>h) (Or.inl ⟨by rfl,?_⟩) (by assumption) ?_
   rotate_left
   ·(intro w hSw;(try dsimp only at hSw);go_simp) <;> with_reducible rfl
   try simp only[Act.put,List.setIfInBounds_toArray,List.set_cons_zero,List.set_cons_succ]
   refine wpAnyH_take (i:=7) (oi:={ dst:=some 21,op:=.binOp .eql 3 (.tmp 20) (.const (.int .i64 2)) 3,type:=4,pos:= "ref.go:34",after:=#[{ on:=6,ground:=.data},{ on:=4,ground:=.guard}],guard:=some (4,true)}) (v:=?_) rfl (by kernel_rfl) (by kernel_rfl) (by kernel_rfl) (fun _ _ _ h=>h) (Or.inl ⟨by rfl,?_⟩) (by assumption) ?_
   rotate_left
   ·(intro w hSw;(try dsimp only at hSw);go_simp) <;> with_reducible rfl
   try simp only[Act.put,List.setIfInBounds_toArray,List.set_cons_zero,List.set_cons_succ]
   refine wpAnyH_take (i:=8) (oi:={ dst:=some 22,op:=.pick (.tmp 18) (.tmp 21) (.const (.bool false)),type:=4,pos:= "ref.go:34",after:=#[{ on:=4,ground:=.data},{ on:=7,ground:=.data}],guard:=none}) (v:=?_) rfl (by kernel_rfl) (by kernel_rfl) (by kernel_rfl) (fun _ _ _ h=>h) (Or.inl ⟨by rfl,?_⟩) (by assumption) ?_
   rotate_left
   ·(intro w hSw;(try dsimp only at hSw);go_simp) <;> with_reducible rfl
   try simp only[Act.put,List.setIfInBounds_toArray,List.set_cons_zero,List.set_cons_succ]
   refine wpAnyH_take (i:=9) (oi:={ dst:=some 23,op:=.move (.tmp 22),type:=4,pos:= "ref.go:34",after:=#[{ on:=8,ground:=.data},{ on:=4,ground:=.chain}],guard:=none}) (v:=?_) rfl (by kernel_rfl) (by kernel_rfl) (by kernel_rfl) (fun _ _ _ h=>h) (Or.inl ⟨by rfl,?_⟩) (by assumption) ?_
   rotate_left
   ·(intro w hSw;(try dsimp only at hSw);go_simp) <;> with_reducible rfl
   try simp only[Act.put,List.setIfInBounds_toArray,List.set_cons_zero,List.set_cons_succ]
   refine F8 (by kernel_rfl) (fun _ _ d _ h=>by cases d <;> exact h) (by assumption) [10,11,12,13,14] 1 rfl (by kernel_rfl) ⟨rfl,rfl,rfl,rfl,rfl,trivial⟩ ?_
   refine wpAnyH_take (i:=15) (oi:={ dst:=some 29,op:=.pick (.tmp 23) (.tmp 28) (.const (.bool false)),type:=4,pos:= "ref.go:34",after:=#[{ on:=9,ground:=.data},{ on:=14,ground:=.data}],guard:=none}) (v:=?_) rfl (by kernel_rfl) (by kernel_rfl) (by kernel_rfl) (fun _ _ _ h=>h) (Or.inl ⟨by rfl,?_⟩) (by assumption) ?_
   rotate_left
   ·(intro w hSw;(try dsimp only at hSw);go_simp) <;> with_reducible rfl
   try simp only[Act.put,List.setIfInBounds_toArray,List.set_cons_zero,List.set_cons_succ]
   clear pY
   refine wpAnyH_done (by kernel_rfl) ?_ _
   all_goals
    go_wp2
    go_meet
    exact⟨by rw[HX.out],HW2.out⟩
  ·obtain⟨q,off,rfl,_,r0,r1,r2⟩:=HW.out.ow.rd.o3 (k:=0) rfl
   simp only[Nat.zero_mul,Nat.add_zero] at r0 r1 r2
   have x1:=HW.out.b2.cell 0 rfl
   have x2:=HW.out.b2.cell 1 rfl
   have x3:=HW.out.b2.cell 2 rfl
   obtain⟨a0,a1,a2⟩:=a
   simp only at r0 r1 r2 hd
   have h02:0 < n:=by
    have:=HN.out
    simp at this
    omega
   rcases hd with⟨f0,hd⟩ | ⟨f0,f1,hd⟩ | ⟨f0,f1,f2,hd⟩ | ⟨f0,f1,f2,hd⟩
   all_goals
    have HX:=zz hd
    clear hd
    first | (go_region_held3 (fun w'=>w'.cell? ⟨w.heap.size,0,none⟩=some (.string (aa nm))∧w'.cell? ⟨w.heap.size+2,0,none⟩=some (.int .i64 1)∧w'.cell? ⟨w.heap.size+2,1,none⟩=some (.int .i64 7)∧w'.cell? ⟨w.heap.size+2,2,none⟩=some (.int .i64 0)∧w'.cell? ⟨q,off,none⟩=some (.int .i64 a0)∧w'.cell? ⟨q,off+1,none⟩=some (.int .i64 a1)∧w'.cell? ⟨q,off+2,none⟩=some (.int .i64 a2)) (first | assumption | go_keep) ((go_at_call 26;refine (CS.out _ _ RS.out).mono ?_;rintro e w2 ⟨rfl,hb⟩;have HW2:=zz (HW.out.after (EH.out.trans (hb.mono EH.out.size)));have y0:=HW2.out.b0.cell 0 rfl;have y1:=HW2.out.b2.cell 0 rfl;have y2:=HW2.out.b2.cell 1 rfl;have y3:=HW2.out.b2.cell 2 rfl;have y4:=eB (EH.out.trans (hb.mono EH.out.size)) r0;have y5:=eB (EH.out.trans (hb.mono EH.out.size)) r1;have y6:=eB (EH.out.trans (hb.mono EH.out.size)) r2;clear hb))) | fail
    all_goals
     go_wp2
     go_meet
     exact⟨by rw[HX.out],HW2.out⟩
 case rest=>
 obtain⟨rfl,hw⟩:=hcut
 clear CS RS EH HD HW
 have HW:=zz hw
 clear hw
 go_upto_if 29 with fail
 have H2:Hid (gW m l=true→∃a b,l=[a,b]):=VE
 obtain⟨d,hdd⟩:∃d,gW m l=d:=⟨_,rfl⟩
 rw[hdd] at H2 ⊢
 have HDR:=zz hdd
 clear hdd
 go_cut [4] (fun s4 wx=>∃A5 n5 c5,s4= .slice A5 n5 c5∧Hid (n5=(mE d l).length)∧n5≤c5∧Hid (rU w wx (aa nm) A n c A5 (mE d l)))
 case first=>
  cases d
  ·go_wp2_with fail
   go_meet
   exact⟨A4,n,c4,rfl,HN.out,hc4,HW.out⟩
  ·obtain⟨a,b,rfl⟩:=H2.out rfl
   obtain rfl:n=2:=HN.out
   obtain⟨q,off,rfl,_,_⟩:=HW.out.ow.first
   have hs:=fun W=>Fh q off c4 W hc4
   go_wp2_with fail
   go_meet
   exact⟨some ⟨q,off+3,none⟩,1,c4 - 1,rfl,rfl,by omega,⟨HW.out.b0,HW.out.b1,HW.out.b2,HW.out.ow.tail,HW.out.bl,HW.out.sz⟩⟩
 case rest=>
 obtain⟨A5,n5,c5,rfl,mK,hc5,hw⟩:=hcut
 have HL5:Hid (∃L5,mE d l=L5):=⟨_,rfl⟩
 obtain⟨L5,hL5⟩:=HL5.out
 have aAZ:n5≤3:=by
  rw[mK]
  have h1:=HM.out
  unfold mE
  split
  ·rw[List.length_drop];omega
  ·exact h1
 rw[hL5] at mK hw
 have HE5:=zz hL5
 have HN5:=zz mK
 clear mK hL5 HL5 HW H2
 have HW:=zz hw
 clear hw
 have CA:Hid (∀(W:World) (A:Option Addr),Rd W (fun _=>True) A [.string ⟨#[65,68,68]⟩,.string ⟨#[65,68,67]⟩,.string ⟨#[83,66,67]⟩]→Calls Tryz.prog 26 #[.slice A 3 3,.string (aa nm)] W fun e w'=>e= .returned (.bool (bU nm mH))∧Below W.heap.size W w'):=fun W A h=>wK afl (by decide) hnm W A (by rw[afr];exact h)
 obtain⟨m2,hma⟩:∃m2,bU nm mH=m2:=⟨_,rfl⟩
 rw[hma] at CA
 have HMA:=zz hma
 clear hma
 have HB5:Hid (Below wc.heap.size wc (wc.alloc (.cells #[.string ⟨#[65,68,68]⟩,.string ⟨#[65,68,67]⟩,.string ⟨#[83,66,67]⟩] 9))):=(zo _ _).alloc (zu _) _
 have RA:Hid (Rd (wc.alloc (.cells #[.string ⟨#[65,68,68]⟩,.string ⟨#[65,68,67]⟩,.string ⟨#[83,66,67]⟩] 9)) (fun _=>True) (some ⟨wc.heap.size,0,none⟩) [.string ⟨#[65,68,68]⟩,.string ⟨#[65,68,67]⟩,.string ⟨#[83,66,67]⟩]):=Rd.new (p:=fun _=>True) wc #[.string ⟨#[65,68,68]⟩,.string ⟨#[65,68,67]⟩,.string ⟨#[83,66,67]⟩] 9 trivial
 go_upto_region 5 with fail
 go_cut [40] (fun s40 wx=>s40= .bool (m2 && ((n5:Int) == 1))∧Hid (rU w wx (aa nm) A n c A5 L5))
 case first=>
  have x0:=(HW.out.b0.alloc (.cells #[.string ⟨#[65,68,68]⟩,.string ⟨#[65,68,67]⟩,.string ⟨#[83,66,67]⟩] 9)).cell 0 rfl
  cases m2
  ·go_wp2_with (go_at_call 26;refine (CA.out _ _ RA.out).mono ?_;rintro e w2 ⟨rfl,hb⟩;have HW2:=zz (HW.out.after (HB5.out.trans (hb.mono HB5.out.size)));clear hb)
   go_meet
   exact⟨rfl,HW2.out⟩
  ·go_wp2_with (go_at_call 26;refine (CA.out _ _ RA.out).mono ?_;rintro e w2 ⟨rfl,hb⟩;have HW2:=zz (HW.out.after (HB5.out.trans (hb.mono HB5.out.size)));clear hb)
   go_meet
   exact⟨by simp,HW2.out⟩
 case rest=>
 obtain⟨rfl,hw⟩:=hcut
 clear CA HB5 RA HW
 have HW:=zz hw
 clear hw
 go_upto_if 40 with fail
 have H1:Hid ((m2 && ((n5:Int) == 1))=true→n5=1):=fun h=>by
  simp only[Bool.and_eq_true,beq_iff_eq] at h
  omega
 have HM2:Hid (∃e,(m2 && ((n5:Int) == 1))=e):=⟨_,rfl⟩
 obtain⟨e,he⟩:=HM2.out
 rw[he] at H1 ⊢
 have HE:=zz he
 clear he HM2
 go_cut [4] (fun s4 wx=>∃A6 n6 c6,s4= .slice A6 n6 c6∧Hid (n6=(vk e L5).length)∧n6≤c6∧Hid (rU w wx (aa nm) A n c A6 (vk e L5)))
 case first=>
  cases e
  ·go_wp2_with fail
   go_meet
   exact⟨A5,n5,c5,rfl,HN5.out,hc5,HW.out⟩
  ·obtain rfl:=H1.out rfl
   obtain⟨a,rfl⟩:=agQ HN5.out
   obtain⟨q,off,rfl,_,r0,r1,r2⟩:=HW.out.ow.first
   have y1:=HW.out.b2.cell 0 rfl
   have y2:=HW.out.b2.cell 1 rfl
   have y3:=HW.out.b2.cell 2 rfl
   obtain⟨a0,a1,a2⟩:=a
   simp only at r0 r1 r2
   go_wp2
   go_region
   all_goals
    go_wp2
    go_meet
    exact⟨_,2,2,rfl,rfl,zu _,HW.out.awQ (1,7,0) (a0,a1,a2)⟩
 case rest=>
 obtain⟨A6,n6,c6,rfl,hn6,hc6,hw⟩:=hcut
 have aAY:n6≤3:=by
  rw[hn6]
  have h1:n5=L5.length:=HN5.out
  cases e
  ·exact (show L5.length≤3 by omega)
  ·have h2:n5=1:=H1.out rfl
   exact (show L5.length+1≤3 by omega)
 obtain⟨L6,hL6⟩:∃L6,vk e L5=L6:=⟨_,rfl⟩
 rw[hL6] at hn6 hw
 have HE6:=zz hL6
 have HN6:=zz hn6
 clear hn6 hL6 HW H1
 have HW:=zz hw
 clear hw
 go_upto_region 9 with fail
 have HK5:Hid (Bk ((wc.alloc (.cells #[.int .i64 3,.int .i64 2,.int .i64 0] 65)).alloc (.cells #[.int .i64 3,.int .i64 1,.int .i64 0] 65)) wc.heap.size 65 [.int .i64 3,.int .i64 2,.int .i64 0]):=(Bk.new wc _ _).alloc _
 have HK6:Hid (Bk ((wc.alloc (.cells #[.int .i64 3,.int .i64 2,.int .i64 0] 65)).alloc (.cells #[.int .i64 3,.int .i64 1,.int .i64 0] 65)) (wc.heap.size+1) 65 [.int .i64 3,.int .i64 1,.int .i64 0]):=by
  have:=Bk.new (wc.alloc (.cells #[.int .i64 3,.int .i64 2,.int .i64 0] 65)) 65 [.int .i64 3,.int .i64 1,.int .i64 0]
  rwa [World.size_alloc] at this
 have HW6:=zz (HW.out.after (((zo _ _).alloc (zu _) (.cells #[.int .i64 3,.int .i64 2,.int .i64 0] 65)).alloc (by simp) (.cells #[.int .i64 3,.int .i64 1,.int .i64 0] 65)))
 obtain⟨b5,hb5⟩:∃b,wc.heap.size=b:=⟨_,rfl⟩
 rw[hb5] at HK5 HK6
 generalize ((wc.alloc (.cells #[.int .i64 3,.int .i64 2,.int .i64 0] 65)).alloc (.cells #[.int .i64 3,.int .i64 1,.int .i64 0] 65))=W6 at HK5 HK6 HW6 ⊢
 rw[hb5]
 clear hb5 HW
 have e0:((aa nm).toList == [69,88])=decide (nm=[69,88]):=yn (m:=[69,88]) hnm (by decide)
 have HD:=zz (ahg (decide (nm=[69,88])) L6 n6 HN6.out)
 obtain⟨xe,hxe⟩:∃xe,decide (nm=[69,88])=xe:=⟨_,rfl⟩
 rw[hxe] at e0 HD
 have HXE:=zz hxe
 clear hxe
 have x0:=HW6.out.b0.cell 0 rfl
 have y1:=HK5.out.cell 0 rfl
 have y2:=HK5.out.cell 1 rfl
 have y3:=HK5.out.cell 2 rfl
 have y4:=HK6.out.cell 0 rfl
 have y5:=HK6.out.cell 1 rfl
 have y6:=HK6.out.cell 2 rfl
 go_cut [69] (fun s69 wx=>s69= .bool (D6 xe L6)∧∃m,wx=W6.drewN m)
 case first=>
  rcases HD.out with⟨rfl,hd⟩ | ⟨rfl,⟨h2,hd⟩ | ⟨h2,a,b,rfl,hd⟩⟩ <;> clear HD
  ·have HX:=zz hd
   clear hd
   go_quiet (fail)
   all_goals
    go_wp2
    go_meet
    exact⟨by rw[HX.out],_,rfl⟩
  ·have HX:=zz hd
   clear hd
   go_quiet (fail)
   all_goals
    go_wp2
    go_meet
    exact⟨by rw[HX.out],_,rfl⟩
  ·obtain⟨q,off,rfl,_,r0,r1,r2⟩:=HW6.out.ow.first
   obtain⟨q',off',hq,_,t0,t1,t2⟩:=HW6.out.ow.tail.first
   obtain⟨rfl,rfl⟩:q=q'∧off+3=off':=by
    have:=Addr.mk.inj (zx hq)
    exact⟨this.1,this.2.1⟩
   clear hq
   obtain⟨a0,a1,a2⟩:=a
   obtain⟨b0,b1,b2⟩:=b
   simp only at r0 r1 r2 t0 t1 t2 hd
   have h02:1 < n6:=by
    have h6:n6=2:=HN6.out
    omega
   rcases hd with⟨f0,hd⟩ | ⟨f0,f1,hd⟩ | ⟨f0,f1,f2,hd⟩ | ⟨f0,f1,f2,⟨f3,hd⟩ | ⟨f3,f4,hd⟩ | ⟨f3,f4,f5,hd⟩ | ⟨f3,f4,f5,hd⟩⟩
   all_goals
    have HX:=zz hd
    clear hd
    go_quiet (fail)
    all_goals
     go_wp2
     go_meet
     exact⟨by rw[HX.out],_,rfl⟩
 case rest=>
 obtain⟨rfl,m,rfl⟩:=hcut
 go_upto_if 69 with fail
 have HW7:Hid (rU w (W6.drewN m) (aa nm) A n c A6 L6):=ZP HW6.out m
 have HDD:Hid (∃d,D6 xe L6=d):=⟨_,rfl⟩
 obtain⟨d',hd'⟩:=HDD.out
 rw[hd']
 have HE7:=zz hd'
 clear hd' HDD HD x0
 go_cut [4] (fun s4 wx=>∃A7 n7 c7,s4= .slice A7 n7 c7∧Hid (n7=(Vt d' L6).length)∧n7≤c7∧Hid (rU w wx (aa nm) A n c A7 (Vt d' L6)))
 case first=>
  cases d'
  ·go_wp2_with fail
   go_meet
   exact⟨A6,n6,c6,rfl,HN6.out,hc6,HW7.out⟩
  ·go_wp2_with fail
   go_meet
   exact⟨_,2,2,rfl,rfl,zu _,HW7.out.asz (3,1,0) (3,2,0)⟩
 case rest=>
 obtain⟨A7,n7,c7,rfl,hn7,hc7,hw⟩:=hcut
 have aAX:n7≤3:=by
  rw[hn7]
  have h1:n6=L6.length:=HN6.out
  cases d'
  ·exact (show L6.length≤3 by omega)
  ·exact (show 2≤3 by omega)
 have H7:Hid (∀o∈Vt d' L6,mQ o):=by
  rw[← HE6.out,← HE5.out]
  exact aok (ahw (ac7 H64.out))
 obtain⟨L7,hL7⟩:∃L7,Vt d' L6=L7:=⟨_,rfl⟩
 rw[hL7] at hn7 hw H7
 have HE8:=zz hL7
 have Sm:=zz hn7
 clear hn7 hL7 HW7 HW6 HK5 HK6 y1 y2 y3 y4 y5 y6
 have HW:=zz hw
 clear hw
 have z0:=HW.out.b0.cell 0 rfl
 have z1:=HW.out.b0.cell 1 rfl
 have HWD:=zz (Af nm l)
 have HV:Hid (∃v,dx nm l=v):=⟨_,rfl⟩
 obtain⟨wd,hwd⟩:=HV.out
 rw[hwd] at HWD CWd
 have HE9:=zz hwd
 clear hwd HV
 go_upto_region 12 with (go_at_call 27;refine (CWd.out _ HW.out.bl).mono ?_;rintro e w8 ⟨rfl,hb⟩;have HW8:=zz (HW.out.after hb);clear hb)
 rcases HWD.out with rfl | rfl | rfl <;> clear HWD
 ·go_wp2
  go_loopw [8] (fun v wr=>∃k:Nat,v= .int .i64 (k:Int)∧k≤n7∧Hid (rU w wr (aa nm) A n c A7 (aZ 0 k L7))) (fun v _=>n7 - (intOf v).toNat)
  case atStart=>exact⟨0,rfl,Nat.zero_le _,by rw[iG];exact HW8.out⟩
  case round=>
   obtain⟨k,rfl,hk,hr⟩:=hrel
   by_cases hlt:k < n7
   ·have hk1:k < L7.length:=by rw[← Sm.out];exact hlt
    have e1:=List.getElem?_eq_getElem hk1
    obtain⟨o,ho⟩:∃o,L7[k]=o:=⟨_,rfl⟩
    rw[ho] at e1
    obtain⟨q,off,rfl,hq,c0,c1,c2,f2,hset⟩:=hr.out.ow.cells (gT e1)
    have E1:=zz e1
    have EG:=zz hset
    clear hset ho e1
    cases hp:jR 0 o
    ·have HS:Hid (aZ 0 k L7=aZ 0 (k+1) L7):=iH E1.out (kM hp)
     have HF:Hid ((o.1 != 6)=true∨((o.1 != 6)=false∧decide (0≤o.2.2)=true)∨((o.1 != 6)=false∧decide (0≤o.2.2)=false)):=by
      simp only[jR,Bool.and_eq_false_iff] at hp
      cases h6:(o.1 != 6)
      ·have h6':o.1=6:=by simpa using h6
       refine .inr ?_
       cases h0:decide (0≤o.2.2)
       ·refine .inr ?_
        simp[h6'] at hp
        simp at h0
        simp
        skip
       ·exact .inl ⟨rfl,rfl⟩
      ·exact .inl rfl
     clear hp
     generalize o.1=k0 at c0 HF
     generalize o.2.2=n0 at c2 HF
     clear EG E1
     rcases HF.out with d0 | ⟨d0,d1⟩ | ⟨d0,d1⟩
     all_goals
      clear HF
      go_wp2
      go_roundw
      case rel=>exact⟨k+1,by go_num,by omega,by rw[← HS.out];exact hr.out⟩
      case measure=>simp[intOf];omega
    ·exact absurd hp (by simp[jR])
   ·have HS:Hid (aZ 0 k L7=aK nm l):=(jm 0 L7 (by rw[← Sm.out];omega)).trans (nM HMS.out HMA.out HXE.out HDR.out HE5.out HN5.out HE.out HE6.out HE7.out HE8.out HE9.out)
    have z0:=hr.out.b0.cell 0 rfl
    have z2:=hr.out.b1.cell 0 rfl
    have z3:=hr.out.b1.cell 1 rfl
    have f2:=hr.out.b1.frozen 0
    have f3:=hr.out.b1.frozen 1
    go_wp2
    have kk:=(hr.out.b1.set 0 (.string (aa nm))).set 1 (.slice A7 n7 c7)
    have u0:=kk.cell 0 rfl
    have u1:=kk.cell 1 rfl
    have HL:Hid (n7=(aK nm l).length):=by
     show _=_
     rw[← HS.out,jl,Sm.out]
    refine bodyPost_ret (v:=.agg #[.string (aa nm),.slice A7 n7 c7]) (by simp[results,Tryz.results9,go_sem,u0,u1]) rfl ⟨A7,c7,by rw[← HL.out],?_,(hr.out.bl.setCell (by show w.heap.size≤w.heap.size+1;omega) _).setCell (by show w.heap.size≤w.heap.size+1;omega) _⟩
    rw[← HS.out]
    exact (((hr.out.ow.other (by show w.heap.size+1 < w.heap.size+3;omega) _).other (by show w.heap.size+1 < w.heap.size+3;omega) _).rd).gz fun _ _=>trivial
 ·go_wp2
  go_loopw [8] (fun v wr=>∃k:Nat,v= .int .i64 (k:Int)∧k≤n7∧Hid (rU w wr (aa nm) A n c A7 (aZ 1 k L7))) (fun v _=>n7 - (intOf v).toNat)
  case atStart=>exact⟨0,rfl,Nat.zero_le _,by rw[iG];exact HW8.out⟩
  case round=>
   obtain⟨k,rfl,hk,hr⟩:=hrel
   by_cases hlt:k < n7
   ·have hk1:k < L7.length:=by rw[← Sm.out];exact hlt
    have e1:=List.getElem?_eq_getElem hk1
    obtain⟨o,ho⟩:∃o,L7[k]=o:=⟨_,rfl⟩
    rw[ho] at e1
    obtain⟨q,off,rfl,hq,c0,c1,c2,f2,hset⟩:=hr.out.ow.cells (gT e1)
    have E1:=zz e1
    have EG:=zz hset
    clear hset ho e1
    cases hp:jR 1 o
    ·have HS:Hid (aZ 1 k L7=aZ 1 (k+1) L7):=iH E1.out (kM hp)
     have HF:Hid ((o.1 != 6)=true∨((o.1 != 6)=false∧decide (0≤o.2.2)=true)∨((o.1 != 6)=false∧decide (0≤o.2.2)=false∧decide (-128≤o.2.2)=false)):=by
      simp only[jR,Bool.and_eq_false_iff] at hp
      cases h6:(o.1 != 6)
      ·have h6':o.1=6:=by simpa using h6
       refine .inr ?_
       cases h0:decide (0≤o.2.2)
       ·refine .inr ?_
        simp[h6'] at hp
        simp at h0
        simp
        omega
       ·exact .inl ⟨rfl,rfl⟩
      ·exact .inl rfl
     clear hp
     generalize o.1=k0 at c0 HF
     generalize o.2.2=n0 at c2 HF
     clear EG E1
     rcases HF.out with d0 | ⟨d0,d1⟩ | ⟨d0,d1,d2⟩
     all_goals
      clear HF
      go_wp2
      go_roundw
      case rel=>exact⟨k+1,by go_num,by omega,by rw[← HS.out];exact hr.out⟩
      case measure=>simp[intOf];omega
    ·have hp':=hp
     simp only[jR,Bool.and_eq_true,decide_eq_true_eq] at hp'
     have d0:(o.1 != 6)=false:=by simpa using hp'.1
     have d1:decide (0≤o.2.2)=false:=by
      have:=hp'.2.1
      simp
      omega
     have d2:decide ((-128)≤o.2.2)=true:=by
      have:=hp'.2.2.1
      simp at this ⊢
      omega
     have HP:=zz (qI hp)
     have hpb:(-128)≤o.2.2∧o.2.2 < 0:=by
      simp at d1 d2
      exact⟨d2,d1⟩
     have HE:Hid (rU w (wr.setCell ⟨q,off+k * 3+2,none⟩ (.int .i64 (o.2.2+256))) (aa nm) A n c (some ⟨q,off,none⟩) (aZ 1 (k+1) L7)):=by
      have h3:=EG.out (o.2.2+256)
      have e2:(aZ 1 k L7).set k (o.1,o.2.1,o.2.2+256)=aZ 1 (k+1) L7:=by
       rw[← lS E1.out,HP.out]
       rfl
      rw[e2] at h3
      exact hr.out.store hq h3
     clear hp hp' EG HP E1
     generalize o.1=k0 at c0 d0
     generalize o.2.2=n0 at c2 d1 d2 hpb HE
     obtain⟨hp0,hp1⟩:=hpb
     go_wp2
     go_roundw
     case rel=>exact⟨k+1,by go_num,by omega,HE⟩
     case measure=>simp[intOf];omega
   ·have HS:Hid (aZ 1 k L7=aK nm l):=(jm 1 L7 (by rw[← Sm.out];omega)).trans (nM HMS.out HMA.out HXE.out HDR.out HE5.out HN5.out HE.out HE6.out HE7.out HE8.out HE9.out)
    have z0:=hr.out.b0.cell 0 rfl
    have z2:=hr.out.b1.cell 0 rfl
    have z3:=hr.out.b1.cell 1 rfl
    have f2:=hr.out.b1.frozen 0
    have f3:=hr.out.b1.frozen 1
    go_wp2
    have kk:=(hr.out.b1.set 0 (.string (aa nm))).set 1 (.slice A7 n7 c7)
    have u0:=kk.cell 0 rfl
    have u1:=kk.cell 1 rfl
    have HL:Hid (n7=(aK nm l).length):=by
     show _=_
     rw[← HS.out,jl,Sm.out]
    refine bodyPost_ret (v:=.agg #[.string (aa nm),.slice A7 n7 c7]) (by simp[results,Tryz.results9,go_sem,u0,u1]) rfl ⟨A7,c7,by rw[← HL.out],?_,(hr.out.bl.setCell (by show w.heap.size≤w.heap.size+1;omega) _).setCell (by show w.heap.size≤w.heap.size+1;omega) _⟩
    rw[← HS.out]
    exact (((hr.out.ow.other (by show w.heap.size+1 < w.heap.size+3;omega) _).other (by show w.heap.size+1 < w.heap.size+3;omega) _).rd).gz fun _ _=>trivial
 ·go_wp2
  go_loopw [8] (fun v wr=>∃k:Nat,v= .int .i64 (k:Int)∧k≤n7∧Hid (rU w wr (aa nm) A n c A7 (aZ 2 k L7))) (fun v _=>n7 - (intOf v).toNat)
  case atStart=>exact⟨0,rfl,Nat.zero_le _,by rw[iG];exact HW8.out⟩
  case round=>
   obtain⟨k,rfl,hk,hr⟩:=hrel
   by_cases hlt:k < n7
   ·have hk1:k < L7.length:=by rw[← Sm.out];exact hlt
    have e1:=List.getElem?_eq_getElem hk1
    obtain⟨o,ho⟩:∃o,L7[k]=o:=⟨_,rfl⟩
    rw[ho] at e1
    obtain⟨q,off,rfl,hq,c0,c1,c2,f2,hset⟩:=hr.out.ow.cells (gT e1)
    have E1:=zz e1
    have EG:=zz hset
    clear hset ho e1
    cases hp:jR 2 o
    ·have HS:Hid (aZ 2 k L7=aZ 2 (k+1) L7):=iH E1.out (kM hp)
     have HF:Hid ((o.1 != 6)=true∨((o.1 != 6)=false∧decide (0≤o.2.2)=true)∨((o.1 != 6)=false∧decide (0≤o.2.2)=false∧decide (-32768≤o.2.2)=false)):=by
      simp only[jR,Bool.and_eq_false_iff] at hp
      cases h6:(o.1 != 6)
      ·have h6':o.1=6:=by simpa using h6
       refine .inr ?_
       cases h0:decide (0≤o.2.2)
       ·refine .inr ?_
        simp[h6'] at hp
        simp at h0
        simp
        omega
       ·exact .inl ⟨rfl,rfl⟩
      ·exact .inl rfl
     clear hp
     generalize o.1=k0 at c0 HF
     generalize o.2.2=n0 at c2 HF
     clear EG E1
     rcases HF.out with d0 | ⟨d0,d1⟩ | ⟨d0,d1,d2⟩
     all_goals
      clear HF
      go_wp2
      go_roundw
      case rel=>exact⟨k+1,by go_num,by omega,by rw[← HS.out];exact hr.out⟩
      case measure=>simp[intOf];omega
    ·have hp':=hp
     simp only[jR,Bool.and_eq_true,decide_eq_true_eq] at hp'
     have d0:(o.1 != 6)=false:=by simpa using hp'.1
     have d1:decide (0≤o.2.2)=false:=by
      have:=hp'.2.1
      simp
      omega
     have d2:decide ((-32768)≤o.2.2)=true:=by
      have:=hp'.2.2.1
      simp at this ⊢
      omega
     have HP:=zz (qI hp)
     have hpb:(-32768)≤o.2.2∧o.2.2 < 0:=by
      simp at d1 d2
      exact⟨d2,d1⟩
     have HE:Hid (rU w (wr.setCell ⟨q,off+k * 3+2,none⟩ (.int .i64 (o.2.2+65536))) (aa nm) A n c (some ⟨q,off,none⟩) (aZ 2 (k+1) L7)):=by
      have h3:=EG.out (o.2.2+65536)
      have e2:(aZ 2 k L7).set k (o.1,o.2.1,o.2.2+65536)=aZ 2 (k+1) L7:=by
       rw[← lS E1.out,HP.out]
       rfl
      rw[e2] at h3
      exact hr.out.store hq h3
     clear hp hp' EG HP E1
     generalize o.1=k0 at c0 d0
     generalize o.2.2=n0 at c2 d1 d2 hpb HE
     obtain⟨hp0,hp1⟩:=hpb
     go_wp2
     go_roundw
     case rel=>exact⟨k+1,by go_num,by omega,HE⟩
     case measure=>simp[intOf];omega
   ·have HS:Hid (aZ 2 k L7=aK nm l):=(jm 2 L7 (by rw[← Sm.out];omega)).trans (nM HMS.out HMA.out HXE.out HDR.out HE5.out HN5.out HE.out HE6.out HE7.out HE8.out HE9.out)
    have z0:=hr.out.b0.cell 0 rfl
    have z2:=hr.out.b1.cell 0 rfl
    have z3:=hr.out.b1.cell 1 rfl
    have f2:=hr.out.b1.frozen 0
    have f3:=hr.out.b1.frozen 1
    go_wp2
    have kk:=(hr.out.b1.set 0 (.string (aa nm))).set 1 (.slice A7 n7 c7)
    have u0:=kk.cell 0 rfl
    have u1:=kk.cell 1 rfl
    have HL:Hid (n7=(aK nm l).length):=by
     show _=_
     rw[← HS.out,jl,Sm.out]
    refine bodyPost_ret (v:=.agg #[.string (aa nm),.slice A7 n7 c7]) (by simp[results,Tryz.results9,go_sem,u0,u1]) rfl ⟨A7,c7,by rw[← HL.out],?_,(hr.out.bl.setCell (by show w.heap.size≤w.heap.size+1;omega) _).setCell (by show w.heap.size≤w.heap.size+1;omega) _⟩
    rw[← HS.out]
    exact (((hr.out.ow.other (by show w.heap.size+1 < w.heap.size+3;omega) _).other (by show w.heap.size+1 < w.heap.size+3;omega) _).rd).gz fun _ _=>trivial
end Go.Proofs.YtceaodnohnekkaaGreatDoor
