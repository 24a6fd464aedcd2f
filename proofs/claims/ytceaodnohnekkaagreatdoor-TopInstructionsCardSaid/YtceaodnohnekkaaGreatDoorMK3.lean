/- Parts of the proof of TopInstructions. -/
import Derived.Test.YtceaodnohnekkaaGreatDoorMK1
import Derived.Test.YtceaodnohnekkaaGreatDoorMK2
import Derived.Test.YtceaodnohnekkaaGreatDoorProg
import Derived.Test.YtceaodnohnekkaaGreatDoorRows
import Derived.WalkSpells
import Derived.Deep.RegionHeld3
import Derived.Deep.QuietTactic
import Derived.BigQuiet
namespace Go.Proofs.YtceaodnohnekkaaGreatDoor.Ex
open Go.RowKit
mutual
def su (f:Nat→Nat):AV→AV
 | .ptr b o=>.ptr (f b) o
 | .slice b o k n c=>.slice (f b) o k n c
 | .zh j=>.zh (f j)
 | .map b=>.map (f b)
 | .ug b=>.ug (f b)
 | .fn g l c=>.fn g (OD f l) (OD f c)
 | .iface t v=>.iface t (su f v)
 | .agg l=>.agg (OD f l)
 | .tuple l=>.tuple (OD f l)
 | .rA l=>.rA (OD f l)
 | .raw v=>.raw v
 | .sym fs x=>.sym fs x
 | .bool b=>.bool b
 | .int k n=>.int k n
 | .str l=>.str l
 | .iV g o=>.iV g o
 | .bY=>.bY
 | .aX=>.aX
def OD (f:Nat→Nat):List AV→List AV
 |[]=>[]
 |v::l=>su f v::OD f l
end
structure RnE (n:Nat)(f:Nat→Nat)(ρ dM:Env):Prop where
 blk:∀b,b < n→dM.blk (f b)=ρ.blk b
 cap:∀b,b < n→dM.cap (f b)=ρ.cap b
 es:∀b,b < n→dM.es (f b)=ρ.es b
section
variable {n:Nat} {f:Nat→Nat} {ρ dM:Env}
mutual
theorem uw (h:RnE n f ρ dM):∀v:AV,v.ok n→cv dM (su f v)=cv ρ v
 | .raw _,_ | .sym _ _,_ | .bool _,_ | .int _ _,_ | .str _,_ | .bY,_ | .iV _ _,_ | .aX,_ | .rA _,_=>by simp only[su,cv]
 | .ptr b o,hv=>by rw[su,cv,cv,h.blk b hv]
 | .slice b o k m c,hv=>by
   have hb:=h.blk b hv
   have hc:=h.cap b hv
   cases c <;> simp only[su,cv,hb,hc]
 | .zh j,hv=>by rw[su,cv,cv,h.es j hv]
 | .map b,hv=>by rw[su,cv,cv,h.blk b hv]
 | .ug b,hv=>by rw[su,cv,cv,h.blk b hv]
 | .fn g l c,hv=>by rw[su,cv,cv,lK h l hv.1,lK h c hv.2]
 | .iface t v,hv=>by rw[su,cv,cv,uw h v hv]
 | .agg l,hv=>by rw[su,cv,cv,lK h l hv]
 | .tuple l,hv=>by rw[su,cv,cv,lK h l hv]
theorem lK (h:RnE n f ρ dM):∀l:List AV,oks n l→aG dM (OD f l)=aG ρ l
 |[],_=>rfl
 |v::l,hv=>by rw[OD,aG,aG,uw h v hv.1,lK h l hv.2]
end
mutual
theorem AL {m:Nat}(h:∀b,b < n→f b < m):∀v:AV,v.ok n→(su f v).ok m
 | .raw _,_ | .bool _,_ | .int _ _,_ | .str _,_ | .bY,_ | .iV _ _,_ | .aX,_=>trivial
 | .sym _ _,hv=>hv
 | .ptr b _o,hv=>h b hv
 | .slice b _o _k _m _c,hv=>h b hv
 | .zh j,hv=>h j hv
 | .map b,hv=>h b hv
 | .ug b,hv=>h b hv
 | .fn _g l c,hv=>⟨pI h l hv.1,pI h c hv.2⟩
 | .iface _t v,hv=>AL h v hv
 | .agg l,hv=>pI h l hv
 | .tuple l,hv=>pI h l hv
 | .rA l,hv=>pI h l hv
theorem pI {m:Nat}(h:∀b,b < n→f b < m):∀l:List AV,oks n l→oks m (OD f l)
 |[],_=>trivial
 |v::l,hv=>⟨AL h v hv.1,pI h l hv.2⟩
end
theorem CZ:∀l:List AV,(OD f l).length=l.length
 |[]=>rfl
 |_::l=>by rw[OD,List.length_cons,List.length_cons,CZ l]
def OG (f:Nat→Nat):aF→Option aF
 | .cells vs e sz=>some (.cells (OD f vs) e sz)
 | .map es c=>some (.map (es.map fun x=>(su f x.1,su f x.2.1,x.2.2)) c)
 |_=>none
theorem Ze {m:Nat}(h:∀b,b < n→f b < m){k k':aF}(hk:OG f k=some k')(ho:k.ok n):k'.ok m:=by
 cases k <;> simp only[OG,Option.some.injEq,reduceCtorEq] at hk
 ·subst hk
  exact pI h _ ho
 ·subst hk
  intro x hx
  obtain⟨y,hy,rfl⟩:=List.mem_map.1 hx
  exact⟨AL h _ (ho y hy).1,AL h _ (ho y hy).2⟩
theorem OE (h:RnE n f ρ dM){w:World}{b:Nat}(hb:b < n){k k':aF}(hk:OG f k=some k')(ho:k.ok n)(hr:k.rep ρ w b):k'.rep dM w (f b):=by
 cases k <;> simp only[OG,Option.some.injEq,reduceCtorEq] at hk
 ·rename_i vs e sz
  subst hk
  have ho:oks n vs:=ho
  cases sz with
  |none=>
   simp only[aF.rep] at hr ⊢
   rw[h.blk b hb,lK h _ ho]
   exact hr
  |some sz=>
   obtain⟨q,cur,h1,h2,h3,h4,h5,h6⟩:=hr
   refine⟨q,cur,?_,?_,?_,?_,by rw[CZ];exact h5,?_⟩
   ·rw[h.blk b hb];exact h1
   ·rw[h.cap b hb];exact h2
   ·rw[h.cap b hb];exact h3
   ·rw[h.cap b hb];exact h4
   ·rw[lK h _ ho];exact h6
 ·rename_i es c
  subst hk
  simp only[aF.rep] at hr ⊢
  have e:(es.map fun x=>(su f x.1,su f x.2.1,x.2.2)).map (aH dM)=es.map (aH ρ):=by
   rw[List.map_map]
   refine List.map_congr_left fun x hx=>?_
   simp only[Function.comp_apply,aH,uw h _ (ho x hx).1,uw h _ (ho x hx).2]
  rw[h.blk b hb,e]
  exact hr
end
def LF (k:Nat):List (Nat×aF)→Option (List (Nat×aF))
 |[]=>some []
 |x::l=>match OG (k+·) x.2,LF k l with
  |some y,some m=>some ((k+x.1,y)::m)
  |_,_=>none
theorem wQ {k:Nat}:∀{l m:List (Nat×aF)},LF k l=some m→∀b,(b < k→au b m=none)∧∀y,au (k+b) m=some y→∃z,au b l=some z∧OG (k+·) z=some y
 |[],m,h,b=>by
  obtain rfl:=zx h
  exact⟨fun _=>rfl,fun y hy=>by cases hy⟩
 |x::l,m,h,b=>by
  unfold LF at h
  split at h
  case h_2=>cases h
  case h_1 y m' hy hm=>
  obtain rfl:=zx h
  obtain⟨q1,q2⟩:=wQ hm b
  refine⟨fun hb=>?_,fun z hz=>?_⟩
  ·rw[aI _ _ (by omega)]
   exact q1 hb
  ·by_cases hx:x.1=b
   ·subst hx
    rw[aC] at hz
    obtain rfl:=zx hz
    exact⟨x.2,by rw[show x::l=(x.1,x.2)::l from rfl,aC],hy⟩
   ·rw[aI _ _ (by omega)] at hz
    obtain⟨u,h1,h2⟩:=q2 z hz
    exact⟨u,by rw[show x::l=(x.1,x.2)::l from rfl,aI _ _ hx];exact h1,h2⟩
theorem AO {k:Nat}:∀{l m:List (Nat×aF)},LF k l=some m→m.map (·.1)=l.map (k+·.1)
 |[],m,h=>by
  obtain rfl:=zx h
  rfl
 |x::l,m,h=>by
  unfold LF at h
  split at h
  case h_2=>cases h
  case h_1 y m' hy hm=>
  obtain rfl:=zx h
  simp only[List.map_cons,AO hm]
theorem j6 {α:Type}(k:Nat):∀(l m:List (Nat×α)),au k (l++m)=match au k l with | some v=>some v | none=>au k m
 |[],m=>rfl
 |x::l,m=>by
  rw[List.cons_append]
  simp only[au]
  rw[j6 k l m]
  cases Nat.beq x.1 k <;> rfl
theorem Post.paste {w0:World}{ρ:Env}{W:AW}{w w':World}(hW:aO w0 ρ W w){gG:Env}{W1:AW}{m:List (Nat×aF)}(hm:LF W.nx W1.bl=some m)(hP:Post w0 ρ ⟨0,[],[],W.gl⟩ w gG W1 w'):
 ∃ρ',Post w0 ρ W w ρ' ⟨W.nx+W1.nx,m++W.bl,W.az,W.gl⟩ w'∧RnE W1.nx (W.nx+·) gG ρ':=by
 let ρ':Env:=⟨fun b=>if b < W.nx then ρ.blk b else gG.blk (b - W.nx),fun b=>if b < W.nx then ρ.cap b else gG.cap (b - W.nx),fun b=>if b < W.nx then ρ.es b else gG.es (b - W.nx)⟩
 have hlo:∀b,b < W.nx→ρ'.blk b=ρ.blk b:=fun b hb=>if_pos hb
 have hE:Ext W.nx ρ ρ':=⟨fun b hb=>if_pos hb,fun b hb=>if_pos hb,fun b hb=>if_pos hb⟩
 have hhi:∀b,ρ'.blk (W.nx+b)=gG.blk b:=fun b=>by
  show (if W.nx+b < W.nx then _ else gG.blk (W.nx+b - W.nx))=_
  rw[if_neg (by omega),Nat.add_sub_cancel_left]
 have hRn:RnE W1.nx (W.nx+·) gG ρ':=⟨fun b _=>hhi b,fun b _=>by
  show (if W.nx+b < W.nx then _ else gG.cap (W.nx+b - W.nx))=_
  rw[if_neg (by omega),Nat.add_sub_cancel_left],fun b _=>by
  show (if W.nx+b < W.nx then _ else gG.es (W.nx+b - W.nx))=_
  rw[if_neg (by omega),Nat.add_sub_cancel_left]⟩
 have hget:∀b k,au b (m++W.bl)=some k→(b < W.nx∧au b W.bl=some k)∨∃c z,b=W.nx+c∧au c W1.bl=some z∧OG (W.nx+·) z=some k:=fun b k hk=>by
  rw[j6] at hk
  by_cases hlt:b < W.nx
  ·rw[(wQ hm b).1 hlt] at hk
   exact .inl ⟨hlt,hk⟩
  ·have e:b=W.nx+(b - W.nx):=by omega
   cases hq:au b m with
   |none=>
    rw[hq] at hk
    exact (hlt (hW.ok b k hk).1).elim
   |some y=>
    rw[hq] at hk
    obtain rfl:=zx hk
    rw[e] at hq
    obtain⟨z,h1,h2⟩:=(wQ hm _).2 y hq
    exact .inr ⟨_,z,e,h1,h2⟩
 have hT:∀i,¬fD ρ ⟨0,[],[],W.gl⟩ W1 i:=fun i ⟨b,_,h,_⟩=>absurd h (Nat.not_lt_zero _)
 have hup:∀c,c < W1.nx→w.heap.size≤gG.blk c:=fun c hc=>by
  rcases Nat.lt_or_ge (gG.blk c) w.heap.size with h | h
  ·exact (hT _ (hP.fresh c (Nat.zero_le _) hc h)).elim
  ·exact h
 have hgr:Gr w w' (fun _=>False):=hP.gr.mono fun i _ h=>hT i h
 have hmap:∀b,b < W1.nx→W.nx+b < W.nx+W1.nx:=fun b hb=>by omega
 refine⟨ρ',⟨hE,Nat.le_add_right _ _,fun _ h=>h,hgr.mono fun _ _ h=>h.elim,fun b h1 h2 h3=>?_,⟨hP.rep.below,fun b k hk=>?_,fun b b' k k' h1 h2 e=>?_,fun b k hk=>?_,?_,hW.gl⟩,fun b hlt hs=>?_,fun b _ h=>.inl h,rfl⟩,hRn⟩
 ·have h2:b < W.nx+W1.nx:=h2
  have e:b=W.nx+(b - W.nx):=by omega
  rw[e,hhi] at h3
  have:=hup (b - W.nx) (by omega)
  omega
 ·rcases hget b k hk with⟨hlt,h⟩ | ⟨c,z,rfl,hz,hzk⟩
  ·obtain⟨q1,q2,q3,q4⟩:=hW.ok b k h
   rw[hlo b hlt]
   exact⟨zq hlt (Nat.le_add_right _ _),aF.ok.mono (Nat.le_add_right _ _) q2,q3,zq q4 hgr.size⟩
  ·obtain⟨q1,q2,q3,q4⟩:=hP.rep.ok c z hz
   rw[hhi]
   exact⟨hmap c q1,Ze hmap hzk q2,q3,q4⟩
 ·rcases hget b k h1 with⟨hlt,g1⟩ | ⟨c,z,rfl,hz,hzk⟩ <;> rcases hget b' k' h2 with⟨hlt',g2⟩ | ⟨c',z',rfl,hz',axl⟩
  ·rw[hlo b hlt,hlo b' hlt'] at e
   exact hW.inj b b' k k' g1 g2 e
  ·rw[hlo b hlt,hhi] at e
   have:=(hW.ok b k g1).2.2.2
   have:=hup c' (hP.rep.ok c' z' hz').1
   omega
  ·rw[hhi,hlo b' hlt'] at e
   have:=(hW.ok b' k' g2).2.2.2
   have:=hup c (hP.rep.ok c z hz).1
   omega
  ·rw[hhi,hhi] at e
   rw[hP.rep.inj c c' z z' hz hz' e]
 ·rcases hget b k hk with⟨hlt,h⟩ | ⟨c,z,rfl,hz,hzk⟩
  ·exact aF.sH (hgr.block _ (hW.ok b k h).2.2.2 id) hE hlt (hW.ok b k h).2.1 (hW.rep b k h)
  ·exact OE hRn (hP.rep.ok c z hz).1 hzk (hP.rep.ok c z hz).2.1 (hP.rep.rep c z hz)
 ·rw[List.map_append,AO hm,List.nodup_append]
  refine⟨?_,hW.kN,fun a ha b hb e=>?_⟩
  ·have:=hP.rep.kN
   have h2:(W1.bl.map (fun x=>W.nx+x.1))=(W1.bl.map (·.1)).map (W.nx+·):=by rw[List.map_map];rfl
   rw[h2]
   exact List.Pairwise.map _ (fun a b h e=>h (by omega)) this
  ·obtain⟨x,_,rfl⟩:=List.mem_map.1 ha
   obtain⟨y,hy,rfl⟩:=List.mem_map.1 hb
   have:=hW.xA hy
   omega
 ·rw[Option.isSome_iff_exists] at hs ⊢
  obtain⟨k,hk⟩:=hs
  rcases hget b k hk with⟨_,h⟩ | ⟨c,z,rfl,_⟩
  ·exact⟨k,h⟩
  ·omega
def SH:List Value→List Value→Bool
 |[],[]=>true
 | .int k (.ofNat a)::l,.int k' (.ofNat b)::m=>cond (kEq k k') (cond (Nat.beq a b) (SH l m) false) false
 |_,_=>false
theorem Oe:∀{l m:List Value},SH l m=true→l=m
 |[],[],_=>rfl
 |[],_::_,h=>by cases h
 |_::_,[],h=>by simp[SH] at h
 |x::l,y::m,h=>by
  unfold SH at h
  split at h
  ·rename_i e _;cases e
  ·rename_i k a l' k' b m' e1 e2
   obtain⟨rfl,rfl⟩:=List.cons.inj e1
   obtain⟨rfl,rfl⟩:=List.cons.inj e2
   cases h1:kEq k k' with
   |false=>rw[h1] at h;cases h
   |true=>
    cases h2:Nat.beq a b with
    |false=>rw[h1,h2] at h;cases h
    |true=>
     rw[h1,h2] at h
     rw[xC h1,(beq_iff _ _).1 h2,Oe h]
  ·cases h
def Xd:List (Nat×List Value)→List (Nat×List Value)→Bool
 |[],[]=>true
 |x::l,y::m=>cond (Nat.beq x.1 y.1) (cond (SH x.2 y.2) (Xd l m) false) false
 |_,_=>false
theorem sP:∀{l m:List (Nat×List Value)},Xd l m=true→l=m
 |[],[],_=>rfl
 |[],_::_,h=>by cases h
 |_::_,[],h=>by cases h
 |x::l,y::m,h=>by
  unfold Xd at h
  cases h1:Nat.beq x.1 y.1 with
  |false=>rw[h1] at h;cases h
  |true=>
   cases h2:SH x.2 y.2 with
   |false=>rw[h1,h2] at h;cases h
   |true=>
    rw[h1,h2] at h
    obtain⟨x1,x2⟩:=x
    obtain⟨y1,y2⟩:=y
    obtain rfl:x1=y1:=(beq_iff _ _).1 h1
    obtain rfl:x2=y2:=Oe h2
    rw[sP h]
abbrev Ci:=List AV→Option (AV×AW)
def fF (gl:List (Nat×List Value))(g:Nat)(M:Ci):ag:=fun g' args W=>cond (Nat.beq g' g) (match M args with
 |some (v,W1)=>match LF W.nx W1.bl with
  |some m=>cond (Xd gl W.gl) (some (su (W.nx+·) v,⟨W.nx+W1.nx,m++W.bl,W.az,W.gl⟩)) none
  |none=>none
 |none=>none) none
theorem qM {P:Program}{call:ag}(hC:ah P call)(gl:List (Nat×List Value))(g:Nat)(M:Ci)
 (h:∀args v W,M args=some (v,W)→gV args=true∧call g args ⟨0,[],[],gl⟩=some (v,W)):ah P (fF gl g M):=fun g' args W v W' hc=>by
 unfold fF at hc
 cases hg:Nat.beq g' g with
 |false=>rw[hg] at hc;cases hc
 |true=>
 rw[hg] at hc
 obtain rfl:=(beq_iff _ _).1 hg
 simp only[cond_true] at hc
 split at hc
 case h_2=>cases hc
 case h_1 u W1 hu=>
 split at hc
 case h_2=>cases hc
 case h_1 m hm=>
 cases hgl:Xd gl W.gl with
 |false=>rw[hgl] at hc;cases hc
 |true=>
 rw[hgl] at hc
 obtain rfl:=sP hgl
 simp only[cond_true] at hc
 obtain⟨rfl,rfl⟩:=zw (zx hc)
 obtain⟨hf,hr⟩:=h args u W1 hu
 obtain⟨q1,_,q3⟩:=hC _ _ _ _ _ hr
 refine⟨q1,fun _ hb=>hb,fun w0 ρ w _ hW=>?_⟩
 have h0:aO w0 ρ ⟨0,[],[],W.gl⟩ w:=⟨hW.below,fun b k hb=>(by cases hb),fun b b' k k' hb=>(by cases hb),fun b k hb=>(by cases hb),List.nodup_nil,hW.gl⟩
 refine (q3 w0 ρ w (iP 0 _ hf) h0).mono ?_
 rintro e w' ⟨gG,rfl,hP,hv⟩
 obtain⟨ρ',hP',hRn⟩:=hP.paste hW hm
 exact⟨ρ',by rw[uw hRn u hv],hP',AL (fun b hb=>by show W.nx+b < W.nx+W1.nx;omega) u hv⟩
def acy:List (AV×AV×Nat)→List (AV×AV×Nat)→Bool
 |[],[]=>true
 |x::l,y::m=>cond (lD x.1 y.1) (cond (lD x.2.1 y.2.1) (cond (Nat.beq x.2.2 y.2.2) (acy l m) false) false) false
 |_,_=>false
theorem R7:∀{l m:List (AV×AV×Nat)},acy l m=true→l=m
 |[],[],_=>rfl
 |[],_::_,h=>by cases h
 |_::_,[],h=>by cases h
 |(x1,x2,x3)::l,(y1,y2,y3)::m,h=>by
  simp only[acy] at h
  cases h1:lD x1 y1 with
  |false=>rw[h1] at h;cases h
  |true=>
  cases h2:lD x2 y2 with
  |false=>rw[h1,h2] at h;cases h
  |true=>
  cases h3:Nat.beq x3 y3 with
  |false=>rw[h1,h2,h3] at h;cases h
  |true=>
   rw[h1,h2,h3] at h
   rw[mf h1,mf h2,(beq_iff _ _).1 h3,R7 h]
def BZ:aF→aF→Bool
 | .cells vs e sz,.cells vs' e' Ou=>cond (lC vs vs') (cond (Nat.beq e e') (ZA sz Ou) false) false
 | .map es c,.map es' c'=>cond (acy es es') (Nat.beq c c') false
 |_,_=>false
theorem Kg {a b:aF}(h:BZ a b=true):a=b:=by
 unfold BZ at h
 split at h
 ·rename_i vs e sz vs' e' Ou
  cases h1:lC vs vs' with
  |false=>rw[h1] at h;cases h
  |true=>
  cases h2:Nat.beq e e' with
  |false=>rw[h1,h2] at h;cases h
  |true=>
   rw[h1,h2] at h
   rw[lv h1,(beq_iff _ _).1 h2,FV h]
 ·rename_i es c es' c'
  cases h1:acy es es' with
  |false=>rw[h1] at h;cases h
  |true=>
   rw[h1] at h
   rw[R7 h1,(beq_iff _ _).1 h]
 ·cases h
def Ev:List (Nat×aF)→List (Nat×aF)→Bool
 |[],[]=>true
 |x::l,y::m=>cond (Nat.beq x.1 y.1) (cond (BZ x.2 y.2) (Ev l m) false) false
 |_,_=>false
theorem vR:∀{l m:List (Nat×aF)},Ev l m=true→l=m
 |[],[],_=>rfl
 |[],_::_,h=>by cases h
 |_::_,[],h=>by cases h
 |x::l,y::m,h=>by
  unfold Ev at h
  cases h1:Nat.beq x.1 y.1 with
  |false=>rw[h1] at h;cases h
  |true=>
   cases h2:BZ x.2 y.2 with
   |false=>rw[h1,h2] at h;cases h
   |true=>
    rw[h1,h2] at h
    obtain⟨x1,x2⟩:=x
    obtain⟨y1,y2⟩:=y
    obtain rfl:x1=y1:=(beq_iff _ _).1 h1
    obtain rfl:x2=y2:=Kg h2
    rw[vR h]
def WQ (v:AV)(n:Nat)(bl:List (Nat×aF))(gl:List (Nat×List Value)):Option (AV×AW)→Bool
 |some (u,W)=>cond (lD u v) (cond (Nat.beq W.nx n) (cond (Ev W.bl bl) (match W.az with | []=>Xd W.gl gl | _=>false) false) false) false
 |none=>false
theorem vV {v:AV}{n:Nat}{bl:List (Nat×aF)}{gl:List (Nat×List Value)}{r:Option (AV×AW)}(h:WQ v n bl gl r=true):r=some (v,⟨n,bl,[],gl⟩):=by
 unfold WQ at h
 split at h
 case h_2=>cases h
 case h_1 u W=>
 cases h1:lD u v with
 |false=>rw[h1] at h;cases h
 |true=>
 cases h2:Nat.beq W.nx n with
 |false=>rw[h1,h2] at h;cases h
 |true=>
 cases h3:Ev W.bl bl with
 |false=>rw[h1,h2,h3] at h;cases h
 |true=>
 rw[h1,h2,h3] at h
 simp only[cond_true] at h
 split at h
 ·rename_i hm
  obtain⟨nx,bl',az,gl'⟩:=W
  obtain rfl:nx=n:=(beq_iff _ _).1 h2
  obtain rfl:bl'=bl:=vR h3
  obtain rfl:az=[]:=hm
  obtain rfl:gl'=gl:=sP h
  rw[mf h1]
 ·cases h
structure FE where
 g:Nat
 f:Func
 h:Tryz.prog.funcs[g]? =some f
 n:(f.name == "runtime.NumGoroutine")=false
theorem FE.ok:∀l:List FE,WW Tryz.prog (l.map fun e=>(e.g,e.f))
 |[]=>.nil
 |e::l=>.cons e.h e.n (FE.ok l)
def FE.k {g:Nat}{f:Func}(h:Tryz.prog.funcs[g]? =some f)(n:(f.name == "runtime.NumGoroutine")=false:=by decide):FE:=⟨g,f,h,n⟩
section
open Go.Proofs.Tryz FE
noncomputable def fl0:List FE:=[k func3,k func4,k func5,k func6,k func7,k func8,k func9,k func10,k func11,k func12,k func13,k func14,k func15,k func16,k func17,k func18,k func19,k func20,k func21,k func22,k func23,k func24,k func25,k func26,k func27,k func28,k func29,k func30,k func31,k func32]
noncomputable def fl1:List FE:=[k func33,k func34,k func35,k func36,k func37,k func38,k func39,k func40,k func41,k func42,k func43,k func44,k func45,k func46,k func47,k func48,k func49,k func50,k func51,k func52,k func53,k func54,k func55,k func56,k func57,k func58,k func59,k func60,k func61,k func62]
noncomputable def fl2:List FE:=[k func63,k func64,k func65,k func66,k func67,k func68,k func69,k func70,k func71,k func72,k func73,k func74,k func75,k func76,k func77,k func78,k func79,k func80,k func81,k func82,k func83,k func84,k func85,k func86,k func87,k func88,k func89,k func90,k func91,k func92]
noncomputable def fl3:List FE:=[k func93,k func94,k func95,k func96,k func97,k func98,k func99,k func100,k func101,k func102,k func103,k func104,k func105,k func106,k func107,k func108,k func109,k func110,k func111,k func112,k func113,k func114,k func115,k func116,k func117,k func118,k func119,k func120,k func121,k func122]
noncomputable def fl4:List FE:=[k func123,k func124,k func125,k func126,k func127,k func128,k func129,k func130,k func131,k func132,k func133,k func134,k func135,k func136,k func137,k func138,k func139,k func140,k func141,k func142,k func143,k func144,k func145,k func146,k func147,k func148,k func149,k func150,k func151,k func152]
noncomputable def fl5:List FE:=[k func153,k func154,k func155,k func156,k func157,k func158,k func159,k func160,k func161,k func162,k func163,k func164,k func165,k func166,k func167,k func168,k func169,k func170,k func171,k func172,k func173,k func174,k func175,k func176,k func177,k func178,k func179,k func180,k func181,k func182]
noncomputable def fl6:List FE:=[k func183,k func184,k func185,k func186,k func187,k func188,k func189,k func190,k func191,k func192,k func193,k func194,k func195,k func196,k func197,k func198,k func199,k func200,k func201,k func202,k func203,k func204,k func205,k func206,k func207,k func208,k func209,k func210,k func211,k func212]
noncomputable def fl7:List FE:=[k func213,k func214,k func215,k func216,k func217,k func218,k func219,k func220,k func221,k func222,k func223,k func224,k func225,k func226,k func227,k func228,k func229,k func231,k func232,k func233,k func234,k func235,k func236,k func237,k func238,k func239,k func240,k func241,k func242,k func243]
noncomputable def fl8:List FE:=[k func245,k func246,k func247,k func248,k func249,k func250,k func251,k func252,k func253,k func254,k func255,k func256,k func257,k func258,k func259,k func260,k func261,k func262,k func263,k func264,k func265,k func266,k func267,k func268,k func269,k func270,k func271,k func272,k func273,k func274]
noncomputable def fl9:List FE:=[k func275,k func276,k func277,k func278,k func279,k func280,k func281,k func282,k func283,k func284,k func285,k func286,k func287,k func288,k func289,k func290,k func291,k func292,k func293,k func294,k func295,k func296,k func297,k func298,k func299,k func300,k func301,k func302,k func303,k func305]
noncomputable def ayb:List FE:=[k func306,k func307,k func309,k func310,k func311,k func312,k func313,k func314,k func315,k func316,k func317,k func318,k func319,k func320,k func321,k func322,k func323,k func324,k func325,k func326,k func327,k func328,k func329,k func330,k func331,k func332,k func333,k func334,k func335,k func336]
noncomputable def aya:List FE:=[k func337,k func338,k func339,k func340,k func341,k func342,k func343,k func344,k func345,k func346,k func347,k func348,k func349,k func350,k func351,k func352,k func353,k func354,k func355,k func356,k func357,k func358,k func359,k func360,k func361,k func362,k func363,k func364,k func365,k func366]
noncomputable def ax9:List FE:=[k func367,k func368,k func370,k func371,k func372,k func373,k func374,k func375,k func376,k func377,k func378,k func379,k func380,k func381,k func382,k func383,k func384,k func385,k func386,k func387,k func388,k func389,k func390,k func391,k func392,k func393,k func394,k func395,k func396,k func397]
noncomputable def ax8:List FE:=[k func398,k func399,k func400,k func401,k func402,k func403,k func404,k func405,k func406,k func407,k func408,k func409,k func410,k func411,k func412,k func413,k func414,k func415,k func416,k func417,k func418,k func419,k func420,k func421,k func422,k func423,k func424,k func425,k func426,k func427]
noncomputable def ax7:List FE:=[k func428,k func429,k func430,k func431,k func432,k func433,k func434,k func435,k func436,k func437,k func438,k func439,k func440,k func441,k func442,k func443,k func444,k func445,k func446,k func447,k func448,k func449,k func450,k func451,k func452,k func453,k func454,k func455,k func456,k func457]
noncomputable def ax6:List FE:=[k func458,k func459,k func460,k func461,k func462,k func494]
noncomputable def fl:List FE:=ax6++(ax7++(ax8++(ax9++(aya++(ayb++(fl9++(fl8++(fl7++(fl6++(fl5++(fl4++(fl3++(fl2++(fl1++(fl0)))))))))))))))
noncomputable def Fl:List (Nat×Func):=fl.map fun e=>(e.g,e.f)
abbrev FE.t (f:Func)(l r:Tr Func):Tr Func:=.nd (some f) l r
abbrev FE.u (l r:Tr Func):Tr Func:=.nd none l r
abbrev FE.v:Tr Func:=.nil
noncomputable def Ft:Tr Func:=u (u (t f3 (t f7 (t f15 (t f31 (t f63 (t f127 (t f255 v v) (t f383 v v)) (t f191 (t f319 v v) (t f447 v v))) (t f95 (t f159 (t f287 v v) (t f415 v v)) (t f223 (t f351 v v) v))) (t f47 (t f79 (t f143 (t f271 v v) (t f399 v v)) (t f207 (t f335 v v) v)) (t f111 (t f175 (t f303 v v) (t f431 v v)) (t f239 (t f367 v v) v)))) (t f23 (t f39 (t f71 (t f135 (t f263 v v) (t f391 v v)) (t f199 (t f327 v v) (t f455 v v))) (t f103 (t f167 (t f295 v v) (t f423 v v)) (t f231 (t f359 v v) v))) (t f55 (t f87 (t f151 (t f279 v v) (t f407 v v)) (t f215 (t f343 v v) v)) (t f119 (t f183 (t f311 v v) (t f439 v v)) (t f247 (t f375 v v) v))))) (t f11 (t f19 (t f35 (t f67 (t f131 (t f259 v v) (t f387 v v)) (t f195 (t f323 v v) (t f451 v v))) (t f99 (t f163 (t f291 v v) (t f419 v v)) (t f227 (t f355 v v) v))) (t f51 (t f83 (t f147 (t f275 v v) (t f403 v v)) (t f211 (t f339 v v) v)) (t f115 (t f179 (t f307 v v) (t f435 v v)) (t f243 (t f371 v v) v)))) (t f27 (t f43 (t f75 (t f139 (t f267 v v) (t f395 v v)) (t f203 (t f331 v v) (t f459 v v))) (t f107 (t f171 (t f299 v v) (t f427 v v)) (t f235 (t f363 v v) v))) (t f59 (t f91 (t f155 (t f283 v v) (t f411 v v)) (t f219 (t f347 v v) v)) (t f123 (t f187 (t f315 v v) (t f443 v v)) (t f251 (t f379 v v) v)))))) (t f5 (t f9 (t f17 (t f33 (t f65 (t f129 (t f257 v v) (t f385 v v)) (t f193 (t f321 v v) (t f449 v v))) (t f97 (t f161 (t f289 v v) (t f417 v v)) (t f225 (t f353 v v) v))) (t f49 (t f81 (t f145 (t f273 v v) (t f401 v v)) (t f209 (t f337 v v) v)) (t f113 (t f177 (t f305 v v) (t f433 v v)) (t f241 v v)))) (t f25 (t f41 (t f73 (t f137 (t f265 v v) (t f393 v v)) (t f201 (t f329 v v) (t f457 v v))) (t f105 (t f169 (t f297 v v) (t f425 v v)) (t f233 (t f361 v v) v))) (t f57 (t f89 (t f153 (t f281 v v) (t f409 v v)) (t f217 (t f345 v v) v)) (t f121 (t f185 (t f313 v v) (t f441 v v)) (t f249 (t f377 v v) v))))) (t f13 (t f21 (t f37 (t f69 (t f133 (t f261 v v) (t f389 v v)) (t f197 (t f325 v v) (t f453 v v))) (t f101 (t f165 (t f293 v v) (t f421 v v)) (t f229 (t f357 v v) v))) (t f53 (t f85 (t f149 (t f277 v v) (t f405 v v)) (t f213 (t f341 v v) v)) (t f117 (t f181 (t f309 v v) (t f437 v v)) (t f245 (t f373 v v) v)))) (t f29 (t f45 (t f77 (t f141 (t f269 v v) (t f397 v v)) (t f205 (t f333 v v) (t f461 v v))) (t f109 (t f173 (t f301 v v) (t f429 v v)) (t f237 (t f365 v v) v))) (t f61 (t f93 (t f157 (t f285 v v) (t f413 v v)) (t f221 (t f349 v v) v)) (t f125 (t f189 (t f317 v v) (t f445 v v)) (t f253 (t f381 v v) v))))))) (u (t f4 (t f8 (t f16 (t f32 (t f64 (t f128 (t f256 v v) (t f384 v v)) (t f192 (t f320 v v) (t f448 v v))) (t f96 (t f160 (t f288 v v) (t f416 v v)) (t f224 (t f352 v v) v))) (t f48 (t f80 (t f144 (t f272 v v) (t f400 v v)) (t f208 (t f336 v v) v)) (t f112 (t f176 v (t f432 v v)) (t f240 (t f368 v v) v)))) (t f24 (t f40 (t f72 (t f136 (t f264 v v) (t f392 v v)) (t f200 (t f328 v v) (t f456 v v))) (t f104 (t f168 (t f296 v v) (t f424 v v)) (t f232 (t f360 v v) v))) (t f56 (t f88 (t f152 (t f280 v v) (t f408 v v)) (t f216 (t f344 v v) v)) (t f120 (t f184 (t f312 v v) (t f440 v v)) (t f248 (t f376 v v) v))))) (t f12 (t f20 (t f36 (t f68 (t f132 (t f260 v v) (t f388 v v)) (t f196 (t f324 v v) (t f452 v v))) (t f100 (t f164 (t f292 v v) (t f420 v v)) (t f228 (t f356 v v) v))) (t f52 (t f84 (t f148 (t f276 v v) (t f404 v v)) (t f212 (t f340 v v) v)) (t f116 (t f180 v (t f436 v v)) (u (t f372 v v) v)))) (t f28 (t f44 (t f76 (t f140 (t f268 v v) (t f396 v v)) (t f204 (t f332 v v) (t f460 v v))) (t f108 (t f172 (t f300 v v) (t f428 v v)) (t f236 (t f364 v v) v))) (t f60 (t f92 (t f156 (t f284 v v) (t f412 v v)) (t f220 (t f348 v v) v)) (t f124 (t f188 (t f316 v v) (t f444 v v)) (t f252 (t f380 v v) v)))))) (t f6 (t f10 (t f18 (t f34 (t f66 (t f130 (t f258 v v) (t f386 v v)) (t f194 (t f322 v v) (t f450 v v))) (t f98 (t f162 (t f290 v v) (t f418 v v)) (t f226 (t f354 v v) v))) (t f50 (t f82 (t f146 (t f274 v v) (t f402 v v)) (t f210 (t f338 v v) v)) (t f114 (t f178 (t f306 v v) (t f434 v v)) (t f242 (t f370 v v) v)))) (t f26 (t f42 (t f74 (t f138 (t f266 v v) (t f394 v v)) (t f202 (t f330 v v) (t f458 v v))) (t f106 (t f170 (t f298 v v) (t f426 v v)) (t f234 (t f362 v v) v))) (t f58 (t f90 (t f154 (t f282 v v) (t f410 v v)) (t f218 (t f346 v v) v)) (t f122 (t f186 (t f314 v v) (t f442 v v)) (t f250 (t f378 v v) v))))) (t f14 (t f22 (t f38 (t f70 (t f134 (t f262 v v) (t f390 v v)) (t f198 (t f326 v v) (t f454 v v))) (t f102 (t f166 (t f294 v v) (t f422 v v)) (u (t f358 v v) v))) (t f54 (t f86 (t f150 (t f278 v v) (t f406 v v)) (t f214 (t f342 v v) v)) (t f118 (t f182 (t f310 v v) (t f438 v v)) (t f246 (t f374 v v) v)))) (t f30 (t f46 (t f78 (t f142 (t f270 v v) (t f398 v v)) (t f206 (t f334 v v) (t f462 v v))) (t f110 (t f174 (t f302 v v) (t f430 v v)) (t f238 (t f366 v v) (t f494 v v)))) (t f62 (t f94 (t f158 (t f286 v v) (t f414 v v)) (t f222 (t f350 v v) v)) (t f126 (t f190 (t f318 v v) (t f446 v v)) (t f254 (t f382 v v) v)))))))
end
theorem aus:Xz Fl=Ft:=by kernel_rfl
theorem aiY:Ky Tryz.prog Ft:=aus ▸ (FE.ok fl).ok
def aD:aB:=.mk .func false 1 [.nilFunc]
def ti1:aB:=.mk (.int .i64) false 1 [.int .i64 (.ofNat 0)]
def ti2:aB:=.mk .other false 1 [.bool false]
def ti3:aB:=.mk (.int .u8) false 1 [.int .u8 (.ofNat 0)]
def ti4:aB:=.mk (.struct [(0,(2,1)),(1,(3,1)),(2,(4,1)),(3,(6,1))]) true 4 [.int .i64 (.ofNat 0),.int .i64 (.ofNat 0),.bool false,.int .u8 (.ofNat 0)]
def ti5:aB:=.mk .string false 1 [.string ⟨⟨[]⟩⟩]
def ti6:aB:=.mk (.int .u64) false 1 [.int .u64 (.ofNat 0)]
def ti7:aB:=.mk (.struct [(0,(9,1)),(1,(12,1))]) true 2 [.string ⟨⟨[]⟩⟩,.int .u64 (.ofNat 0)]
def ti8:aB:=.mk (.ptr 555) false 1 [.pointer none]
def ti9:aB:=.mk (.ptr 558) false 1 [.pointer none]
def awr:aB:=.mk (.ptr 566) false 1 [.pointer none]
def aqQ:aB:=.mk (.struct [(0,(17,1))]) true 1 [.pointer none]
def aje:aB:=.mk (.int .i32) false 1 [.int .i32 (.ofNat 0)]
def awq:aB:=.mk (.slice 65 3 24) false 1 [.slice none 0 0]
def aqv:aB:=.mk (.struct [(0,(9,1)),(1,(22,1))]) true 2 [.string ⟨⟨[]⟩⟩,.slice none 0 0]
def awp:aB:=.mk (.slice 5 1 1) false 1 [.slice none 0 0]
def ajd:aB:=.mk (.struct [(0,(3,1)),(1,(5,1)),(2,(24,2)),(4,(9,1)),(5,(4,1))]) true 6 [.int .i64 (.ofNat 0),.int .u8 (.ofNat 0),.string ⟨⟨[]⟩⟩,.slice none 0 0,.string ⟨⟨[]⟩⟩,.bool false]
def aqu:aB:=.mk (.struct [(0,(3,1)),(1,(25,1)),(2,(24,2)),(4,(4,1))]) true 5 [.int .i64 (.ofNat 0),.slice none 0 0,.string ⟨⟨[]⟩⟩,.slice none 0 0,.bool false]
def awo:aB:=.mk (.slice 46 2 16) false 1 [.slice none 0 0]
def aqt:aB:=.mk (.struct [(0,(3,1)),(1,(27,1))]) true 2 [.int .i64 (.ofNat 0),.int .i64 (.ofNat 0)]
def awn:aB:=.mk (.ptr 103) false 1 [.pointer none]
def awm:aB:=.mk (.slice 25 1 24) false 1 [.slice none 0 0]
def aqs:aB:=.mk (.struct [(0,(3,1)),(1,(3,1)),(2,(3,1))]) true 3 [.int .i64 (.ofNat 0),.int .i64 (.ofNat 0),.int .i64 (.ofNat 0)]
def awl:aB:=.mk (.slice 9 1 16) false 1 [.slice none 0 0]
def awk:aB:=.mk (.ptr 192) false 1 [.pointer none]
def awj:aB:=.mk (.ptr 86) false 1 [.pointer none]
def aqr:aB:=.mk (.struct [(0,(49,6)),(6,(3,1)),(7,(3,1)),(8,(25,1))]) true 9 [.int .i64 (.ofNat 0),.int .u8 (.ofNat 0),.string ⟨⟨[]⟩⟩,.slice none 0 0,.string ⟨⟨[]⟩⟩,.bool false,.int .i64 (.ofNat 0),.int .i64 (.ofNat 0),.slice none 0 0]
def aqp:aB:=.mk (.struct [(0,(25,1)),(1,(3,1))]) true 2 [.slice none 0 0,.int .i64 (.ofNat 0)]
def aqo:aB:=.mk (.struct [(0,(101,2)),(2,(25,1)),(3,(49,6)),(9,(3,1)),(10,(3,1))]) true 11 [.slice none 0 0,.int .i64 (.ofNat 0),.slice none 0 0,.int .i64 (.ofNat 0),.int .u8 (.ofNat 0),.string ⟨⟨[]⟩⟩,.slice none 0 0,.string ⟨⟨[]⟩⟩,.bool false,.int .i64 (.ofNat 0),.int .i64 (.ofNat 0)]
def ajc:aB:=.mk (.struct List.nil) true 0 List.nil
def awi:aB:=.mk (.ptr 117) false 1 [.pointer none]
def aqn:aB:=.mk (.struct [(0,(111,1))]) true 1 [.nilFunc]
def awh:aB:=.mk (.slice 242 4 80) false 1 [.slice none 0 0]
def aqm:aB:=.mk (.struct [(0,(9,1)),(1,(115,1)),(2,(69,1))]) true 3 [.string ⟨⟨[]⟩⟩,.slice none 0 0,.pointer none]
def awg:aB:=.mk (.ptr 123) false 1 [.pointer none]
def aql:aB:=.mk (.struct [(0,(69,1)),(1,(4,1))]) true 2 [.pointer none,.bool false]
def aqk:aB:=.mk (.struct [(0,(126,1))]) true 1 [.nilFunc]
def awf:aB:=.mk (.map 9 4) false 1 [.map none]
def awe:aB:=.mk (.ptr 135) false 1 [.pointer none]
def aqj:aB:=.mk (.struct [(0,(24,2))]) true 2 [.string ⟨⟨[]⟩⟩,.slice none 0 0]
def awd:aB:=.mk (.array 3 136 1) true 3 [.nilFunc,.nilFunc,.nilFunc]
def awc:aB:=.mk (.slice 49 6 80) false 1 [.slice none 0 0]
def av9:aB:=.mk (.slice 3 1 8) false 1 [.slice none 0 0]
def aqi:aB:=.mk (.struct [(0,(3,1)),(1,(144,1))]) true 2 [.int .i64 (.ofNat 0),.nilFunc]
def av8:aB:=.mk (.map 21 1) false 1 [.map none]
def av7:aB:=.mk (.slice 67 1 24) false 1 [.slice none 0 0]
def av6:aB:=.mk (.slice 24 2 40) false 1 [.slice none 0 0]
def av5:aB:=.mk (.ptr 101) false 1 [.pointer none]
def av4:aB:=.mk (.slice 113 1 8) false 1 [.slice none 0 0]
def aqh:aB:=.mk (.struct [(0,(3,1)),(1,(3,1)),(2,(25,1))]) true 3 [.int .i64 (.ofNat 0),.int .i64 (.ofNat 0),.slice none 0 0]
def av2:aB:=.mk (.array 1024 186 1) true 1024 (List.replicate 1024 (.int .u64 (.ofNat 0)))
def av1:aB:=.mk (.array 2 196 1) true 2 [.nilFunc,.nilFunc]
def av0:aB:=.mk (.ptr 201) false 1 [.pointer none]
def aqg:aB:=.mk (.struct [(0,(199,1)),(1,(25,1))]) true 2 [.pointer none,.slice none 0 0]
def avZ:aB:=.mk (.slice 205 2 32) false 1 [.slice none 0 0]
def aqf:aB:=.mk (.struct [(0,(3,1)),(1,(25,1))]) true 2 [.int .i64 (.ofNat 0),.slice none 0 0]
def avY:aB:=.mk (.array 9 9 1) true 9 [.string ⟨⟨[]⟩⟩,.string ⟨⟨[]⟩⟩,.string ⟨⟨[]⟩⟩,.string ⟨⟨[]⟩⟩,.string ⟨⟨[]⟩⟩,.string ⟨⟨[]⟩⟩,.string ⟨⟨[]⟩⟩,.string ⟨⟨[]⟩⟩,.string ⟨⟨[]⟩⟩]
def aqe:aB:=.mk (.struct [(0,(216,9)),(9,(3,1)),(10,(3,1)),(11,(217,1))]) true 12 [.string ⟨⟨[]⟩⟩,.string ⟨⟨[]⟩⟩,.string ⟨⟨[]⟩⟩,.string ⟨⟨[]⟩⟩,.string ⟨⟨[]⟩⟩,.string ⟨⟨[]⟩⟩,.string ⟨⟨[]⟩⟩,.string ⟨⟨[]⟩⟩,.string ⟨⟨[]⟩⟩,.int .i64 (.ofNat 0),.int .i64 (.ofNat 0),.nilFunc]
def avX:aB:=.mk (.slice 487 3 32) false 1 [.slice none 0 0]
def avW:aB:=.mk (.slice 384 2 24) false 1 [.slice none 0 0]
def aqd:aB:=.mk (.struct [(0,(9,1)),(1,(9,1)),(2,(239,1)),(3,(240,1))]) true 4 [.string ⟨⟨[]⟩⟩,.string ⟨⟨[]⟩⟩,.slice none 0 0,.slice none 0 0]
def avV:aB:=.mk (.ptr 333) false 1 [.pointer none]
def aqc:aB:=.mk (.struct [(0,(141,1)),(1,(141,1)),(2,(245,1)),(3,(42,1)),(4,(3,1))]) true 5 [.slice none 0 0,.slice none 0 0,.pointer none,.slice none 0 0,.int .i64 (.ofNat 0)]
def avU:aB:=.mk (.slice 183 3 40) false 1 [.slice none 0 0]
def aqb:aB:=.mk (.array 256 4 1) true 256 (List.replicate 256 (.bool false))
def avT:aB:=.mk (.ptr 264) false 1 [.pointer none]
def avS:aB:=.mk (.ptr 275) false 1 [.pointer none]
def aqa:aB:=.mk (.struct [(0,(25,1))]) true 1 [.slice none 0 0]
def ap9:aB:=.mk (.struct [(0,(273,1))]) true 1 [.slice none 0 0]
def avR:aB:=.mk (.slice 35 5 80) false 1 [.slice none 0 0]
def avQ:aB:=.mk (.ptr 5) false 1 [.pointer none]
def avP:aB:=.mk (.int .i8) false 1 [.int .i8 (.ofNat 0)]
def ap8:aB:=.mk (.struct [(0,(9,1)),(1,(9,1)),(2,(67,1)),(3,(4,1))]) true 4 [.string ⟨⟨[]⟩⟩,.string ⟨⟨[]⟩⟩,.slice none 0 0,.bool false]
def avO:aB:=.mk (.ptr 304) false 1 [.pointer none]
def ap7:aB:=.mk (.struct [(0,(49,6)),(6,(300,4))]) true 10 [.int .i64 (.ofNat 0),.int .u8 (.ofNat 0),.string ⟨⟨[]⟩⟩,.slice none 0 0,.string ⟨⟨[]⟩⟩,.bool false,.string ⟨⟨[]⟩⟩,.string ⟨⟨[]⟩⟩,.slice none 0 0,.bool false]
def avN:aB:=.mk (.slice 371 4 40) false 1 [.slice none 0 0]
def avM:aB:=.mk (.ptr 314) false 1 [.pointer none]
def SY:aB:=.mk (.struct [(0,(307,1))]) true 1 [.slice none 0 0]
def ap6:aB:=.mk (.struct [(0,(312,1)),(1,(242,4))]) true 5 [.slice none 0 0,.string ⟨⟨[]⟩⟩,.string ⟨⟨[]⟩⟩,.slice none 0 0,.slice none 0 0]
def avL:aB:=.mk (.ptr 319) false 1 [.pointer none]
def ap5:aB:=.mk (.struct [(0,(247,5)),(5,(242,4)),(9,(3,1)),(10,(3,1))]) true 11 [.slice none 0 0,.slice none 0 0,.pointer none,.slice none 0 0,.int .i64 (.ofNat 0),.string ⟨⟨[]⟩⟩,.string ⟨⟨[]⟩⟩,.slice none 0 0,.slice none 0 0,.int .i64 (.ofNat 0),.int .i64 (.ofNat 0)]
def avK:aB:=.mk (.array 4 1 1) true 4 [.nilFunc,.nilFunc,.nilFunc,.nilFunc]
def avJ:aB:=.mk (.slice 42 1 24) false 1 [.slice none 0 0]
def avI:aB:=.mk (.map 9 3) false 1 [.map none]
def avH:aB:=.mk (.ptr 394) false 1 [.pointer none]
def ap4:aB:=.mk (.struct [(0,(3,1)),(1,(328,1)),(2,(3,1)),(3,(3,1))]) true 4 [.int .i64 (.ofNat 0),.pointer none,.int .i64 (.ofNat 0),.int .i64 (.ofNat 0)]
def avG:aB:=.mk (.map 9 330) false 1 [.map none]
def ap0:aB:=.mk (.struct [(0,(331,1))]) true 1 [.map none]
def avF:aB:=.mk (.ptr 273) false 1 [.pointer none]
def avE:aB:=.mk (.ptr 189) false 1 [.pointer none]
def avC:aB:=.mk .Cr false 1 [.pointer none]
def avB:aB:=.mk (.array 256 5 1) true 256 (List.replicate 256 (.int .u8 (.ofNat 0)))
def avA:aB:=.mk (.ptr 373) false 1 [.pointer none]
def apZ:aB:=.mk (.struct [(0,(9,1)),(1,(3,1))]) true 2 [.string ⟨⟨[]⟩⟩,.int .i64 (.ofNat 0)]
def apY:aB:=.mk (.struct [(0,(3,1)),(1,(9,1)),(2,(3,1)),(3,(3,1))]) true 4 [.int .i64 (.ofNat 0),.string ⟨⟨[]⟩⟩,.int .i64 (.ofNat 0),.int .i64 (.ofNat 0)]
def apX:aB:=.mk (.struct [(0,(369,2)),(2,(371,4))]) true 6 [.string ⟨⟨[]⟩⟩,.int .i64 (.ofNat 0),.int .i64 (.ofNat 0),.string ⟨⟨[]⟩⟩,.int .i64 (.ofNat 0),.int .i64 (.ofNat 0)]
def apW:aB:=.mk (.struct [(0,(9,1)),(1,(4,1)),(2,(144,1))]) true 3 [.string ⟨⟨[]⟩⟩,.bool false,.nilFunc]
def avz:aB:=.mk (.map 9 376) false 1 [.map none]
def apV:aB:=.mk (.struct [(0,(9,1)),(1,(328,1))]) true 2 [.string ⟨⟨[]⟩⟩,.pointer none]
def apU:aB:=.mk (.struct [(0,(3,1)),(1,(3,1)),(2,(9,1)),(3,(328,1)),(4,(328,1))]) true 5 [.int .i64 (.ofNat 0),.int .i64 (.ofNat 0),.string ⟨⟨[]⟩⟩,.pointer none,.pointer none]
def ah5:aB:=.mk (.struct [(0,(3,1)),(1,(396,1))]) true 2 [.int .i64 (.ofNat 0),.nilFunc]
def aqX:aB:=.mk (.map 9 398) false 1 [.map none]
def ah4:aB:=.mk (.struct [(0,(242,4)),(4,(3,1)),(5,(323,1))]) true 6 [.string ⟨⟨[]⟩⟩,.string ⟨⟨[]⟩⟩,.slice none 0 0,.slice none 0 0,.int .i64 (.ofNat 0),.map none]
def aqW:aB:=.mk (.map 9 404) false 1 [.map none]
def aqV:aB:=.mk (.array 24 5 1) true 24 (List.replicate 24 (.int .u8 (.ofNat 0)))
def aqU:aB:=.mk (.slice 425 2 16) false 1 [.slice none 0 0]
def ah3:aB:=.mk (.struct [(0,(3,1)),(1,(3,1))]) true 2 [.int .i64 (.ofNat 0),.int .i64 (.ofNat 0)]
def aqT:aB:=.mk (.int .u32) false 1 [.int .u32 (.ofNat 0)]
def aqS:aB:=.mk (.ptr 471) false 1 [.pointer none]
def aqR:aB:=.mk (.ptr 369) false 1 [.pointer none]
def aqP:aB:=.mk (.array 4 432 1) true 4 [.nilFunc,.nilFunc,.nilFunc,.nilFunc]
def aqO:aB:=.mk (.ptr 312) false 1 [.pointer none]
def aqN:aB:=.mk (.slice 307 1 24) false 1 [.slice none 0 0]
def aqM:aB:=.mk (.slice 328 1 8) false 1 [.slice none 0 0]
def ah2:aB:=.mk (.struct [(0,(5,1)),(1,(5,1))]) true 2 [.int .u8 (.ofNat 0),.int .u8 (.ofNat 0)]
def aqL:aB:=.mk (.array 16 459 2) true 32 (List.replicate 32 (.int .u8 (.ofNat 0)))
def aqK:aB:=.mk (.array 20 186 1) true 20 (List.replicate 20 (.int .u64 (.ofNat 0)))
def aqJ:aB:=.mk (.slice 474 3 6) false 1 [.slice none 0 0]
def aqI:aB:=.mk (.slice 477 3 12) false 1 [.slice none 0 0]
def ah1:aB:=.mk (.struct [(0,(468,1)),(1,(469,1)),(2,(3,1))]) true 3 [.slice none 0 0,.slice none 0 0,.int .i64 (.ofNat 0)]
def aqH:aB:=.mk (.int .u16) false 1 [.int .u16 (.ofNat 0)]
def ah0:aB:=.mk (.struct [(0,(472,1)),(1,(472,1)),(2,(472,1))]) true 3 [.int .u16 (.ofNat 0),.int .u16 (.ofNat 0),.int .u16 (.ofNat 0)]
def ahZ:aB:=.mk (.struct [(0,(426,1)),(1,(426,1)),(2,(426,1))]) true 3 [.int .u32 (.ofNat 0),.int .u32 (.ofNat 0),.int .u32 (.ofNat 0)]
def ahY:aB:=.mk (.struct [(0,(3,1)),(1,(9,1)),(2,(328,1))]) true 3 [.int .i64 (.ofNat 0),.string ⟨⟨[]⟩⟩,.pointer none]
def aqG:aB:=.mk (.ptr 474) false 1 [.pointer none]
def aqF:aB:=.mk (.ptr 477) false 1 [.pointer none]
def aqE:aB:=.mk (.array 5 3 1) true 5 [.int .i64 (.ofNat 0),.int .i64 (.ofNat 0),.int .i64 (.ofNat 0),.int .i64 (.ofNat 0),.int .i64 (.ofNat 0)]
def aqD:aB:=.mk (.slice 510 2 16) false 1 [.slice none 0 0]
def ahX:aB:=.mk (.struct [(0,(3,1)),(1,(482,1))]) true 2 [.int .i64 (.ofNat 0),.nilFunc]
def aqC:aB:=.mk (.ptr 516) false 1 [.pointer none]
def ahW:aB:=.mk (.struct [(0,(514,1))]) true 1 [.slice none 0 0]
def aqB:aB:=.mk (.array 5 520 1) true 5 [.nilFunc,.nilFunc,.nilFunc,.nilFunc,.nilFunc]
def aqA:aB:=.mk (.array 32 5 1) true 32 (List.replicate 32 (.int .u8 (.ofNat 0)))
def aqz:aB:=.mk (.ptr 3) false 1 [.pointer none]
def aqy:aB:=.mk (.ptr 514) false 1 [.pointer none]
def aqx:aB:=.mk (.ptr 545) false 1 [.pointer none]
def ahV:aB:=.mk (.struct [(0,(17,1)),(1,(17,1)),(2,(17,1)),(3,(9,1))]) true 4 [.pointer none,.pointer none,.pointer none,.string ⟨⟨[]⟩⟩]
def aqw:aB:=.mk (.array 0 16 1) true 0 List.nil
def ahU:aB:=.mk (.struct [(0,(12,1)),(1,(12,1)),(2,(426,1)),(3,(560,1)),(4,(5,1)),(5,(5,1)),(6,(561,1)),(7,(562,1)),(8,(287,1)),(9,(563,1)),(10,(564,1))]) true 11 [.int .u64 (.ofNat 0),.int .u64 (.ofNat 0),.int .u32 (.ofNat 0),.int .u8 (.ofNat 0),.int .u8 (.ofNat 0),.int .u8 (.ofNat 0),.int .u8 (.ofNat 0),.nilFunc,.pointer none,.int .i32 (.ofNat 0),.int .i32 (.ofNat 0)]
def Tt:bG:=(.nd none (.nd (some aD) (.nd (some ti1) (.nd (some ti4) (.nd (some ti8) (.nd (some ajd) (.nd (some aD) (.nd (some aqk) (.nd (some aD) (.nd (some ajc) .nil .nil) .nil) (.nd (some apV) .nil .nil)) (.nd none (.nd (some ap5) .nil .nil) (.nd (some aD) .nil .nil))) (.nd (some aD) (.nd (some aD) (.nd (some avQ) (.nd (some aD) .nil .nil) .nil) (.nd (some aqV) .nil .nil)) (.nd (some aD) (.nd (some aD) .nil .nil) (.nd (some aD) .nil .nil)))) (.nd none (.nd (some aD) (.nd (some aD) (.nd (some avS) (.nd (some ti1) .nil .nil) .nil) (.nd (some aqX) .nil .nil)) (.nd none (.nd (some aD) .nil .nil) (.nd (some aD) .nil .nil))) (.nd (some aD) (.nd none (.nd (some ap7) (.nd (some aD) .nil .nil) .nil) (.nd (some aqR) .nil .nil)) (.nd (some avX) (.nd (some avA) .nil .nil) (.nd (some aD) .nil .nil))))) (.nd (some aqv) (.nd (some aD) (.nd (some aD) (.nd (some aqj) (.nd (some aqb) (.nd (some SY) .nil .nil) .nil) (.nd (some aD) .nil .nil)) (.nd (some av0) (.nd (some aD) .nil .nil) (.nd (some aD) .nil .nil))) (.nd (some aqo) (.nd none (.nd (some aD) (.nd (some aqy) .nil .nil) .nil) (.nd (some aqU) .nil .nil)) (.nd (some aD) (.nd (some aD) .nil .nil) (.nd (some ahY) .nil .nil)))) (.nd (some aD) (.nd (some aD) (.nd (some aD) (.nd (some aD) (.nd (some aD) .nil .nil) .nil) (.nd (some aD) .nil .nil)) (.nd (some aD) (.nd (some aD) .nil .nil) (.nd (some ah1) .nil .nil))) (.nd (some aD) (.nd (some aqh) (.nd (some SY) .nil .nil) .nil) (.nd (some aqc) (.nd (some apW) .nil .nil) (.nd (some aD) .nil .nil)))))) (.nd (some ti5) (.nd (some aqQ) (.nd (some aqu) (.nd (some awl) (.nd (some aD) (.nd (some aD) (.nd (some ahW) .nil .nil) .nil) (.nd (some aD) .nil .nil)) (.nd (some aD) (.nd (some avI) .nil .nil) (.nd (some aD) .nil .nil))) (.nd (some aD) (.nd (some av6) (.nd (some aD) (.nd (some aD) .nil .nil) .nil) (.nd (some aD) .nil .nil)) (.nd (some aD) (.nd (some aD) .nil .nil) (.nd (some aD) .nil .nil)))) (.nd (some aD) (.nd (some aD) (.nd (some aD) (.nd (some ap9) (.nd (some aD) .nil .nil) .nil) (.nd (some ah4) .nil .nil)) (.nd (some aD) (.nd (some aD) .nil .nil) (.nd (some aD) .nil .nil))) (.nd (some awh) (.nd (some aD) (.nd (some avN) (.nd (some aje) .nil .nil) .nil) (.nd (some aqO) .nil .nil)) (.nd none (.nd (some apY) .nil .nil) (.nd (some aD) .nil .nil))))) (.nd (some ti1) (.nd none (.nd (some aD) (.nd (some awc) (.nd (some aD) (.nd (some aD) .nil .nil) .nil) (.nd (some aD) .nil .nil)) (.nd (some aD) (.nd (some avG) .nil .nil) (.nd (some ah2) .nil .nil))) (.nd (some aD) (.nd none (.nd (some ap8) (.nd (some ahV) .nil .nil) .nil) (.nd (some aD) .nil .nil)) (.nd none (.nd (some aD) .nil .nil) (.nd (some aD) .nil .nil)))) (.nd (some awn) (.nd (some aD) (.nd (some aD) (.nd (some aD) (.nd (some aD) .nil .nil) .nil) (.nd (some aD) .nil .nil)) (.nd (some aqe) (.nd (some aD) .nil .nil) (.nd (some aD) .nil .nil))) (.nd (some aql) (.nd (some av2) (.nd (some aD) .nil .nil) .nil) (.nd (some aD) (.nd (some aD) .nil .nil) (.nd (some aqD) .nil .nil))))))) (.nd (some ti3) (.nd (some ti5) (.nd (some awr) (.nd (some aD) (.nd (some aqs) (.nd (some awf) (.nd (some aD) (.nd (some SY) .nil .nil) .nil) (.nd (some aD) .nil .nil)) (.nd (some aD) (.nd (some avJ) .nil .nil) (.nd (some aD) .nil .nil))) (.nd (some aD) (.nd (some aD) (.nd (some aD) (.nd (some ti6) .nil .nil) .nil) .nil) (.nd (some aD) (.nd (some aD) .nil .nil) (.nd (some aD) .nil .nil)))) (.nd (some ajd) (.nd (some aD) (.nd (some aqi) (.nd (some aqa) (.nd (some aD) .nil .nil) .nil) (.nd (some aD) .nil .nil)) (.nd (some aD) (.nd (some aD) .nil .nil) (.nd (some aqK) .nil .nil))) (.nd (some aqn) (.nd (some aD) (.nd (some aD) (.nd (some ti3) .nil .nil) .nil) (.nd (some aqP) .nil .nil)) (.nd (some aqd) (.nd (some apZ) .nil .nil) (.nd (some aD) .nil .nil))))) (.nd (some awp) (.nd (some aD) (.nd none (.nd (some awd) (.nd none (.nd (some aqB) .nil .nil) .nil) (.nd (some apU) .nil .nil)) (.nd (some aqg) (.nd (some ap4) .nil .nil) (.nd (some aD) .nil .nil))) (.nd (some ajc) (.nd (some aD) (.nd (some aD) (.nd (some aD) .nil .nil) .nil) (.nd (some ah3) .nil .nil)) (.nd (some aD) (.nd (some aD) .nil .nil) (.nd (some aD) .nil .nil)))) (.nd (some aD) (.nd (some aD) (.nd (some aD) (.nd (some aD) (.nd (some aD) .nil .nil) .nil) (.nd (some aD) .nil .nil)) (.nd (some aD) (.nd (some aD) .nil .nil) (.nd (some ah0) .nil .nil))) (.nd (some aD) (.nd (some aD) (.nd (some ap6) .nil .nil) .nil) (.nd (some aD) .nil (.nd (some aqF) .nil .nil)))))) (.nd (some ti7) (.nd (some aje) (.nd (some aD) (.nd (some awk) (.nd (some aD) (.nd (some aD) (.nd (some aD) .nil .nil) .nil) (.nd (some aD) .nil .nil)) (.nd (some av1) (.nd (some aD) .nil .nil) (.nd (some aD) .nil .nil))) (.nd (some aqp) (.nd (some av5) (.nd none (.nd (some aqz) .nil .nil) .nil) .nil) (.nd (some aD) (.nd (some aD) .nil .nil) (.nd (some aD) .nil .nil)))) (.nd (some aD) (.nd (some aqr) (.nd (some aD) (.nd (some aD) (.nd (some aD) .nil .nil) .nil) .nil) (.nd (some aD) (.nd (some aD) .nil .nil) (.nd (some aqI) .nil .nil))) (.nd (some aqm) (.nd (some aD) (.nd (some aD) (.nd (some ahU) .nil .nil) .nil) (.nd (some aqN) .nil .nil)) (.nd (some avV) (.nd (some apX) .nil .nil) (.nd (some aD) .nil .nil))))) (.nd (some aD) (.nd (some aqt) (.nd (some aD) (.nd (some av9) (.nd (some aD) (.nd (some aD) .nil .nil) .nil) (.nd (some ah5) .nil .nil)) (.nd (some aqf) (.nd (some ap0) .nil .nil) .nil)) (.nd none (.nd (some av4) (.nd (some aD) .nil .nil) (.nd (some aD) .nil .nil)) (.nd (some aD) (.nd (some aD) .nil .nil) (.nd (some aD) .nil .nil)))) (.nd (some aD) (.nd (some aD) (.nd (some aD) (.nd (some aD) (.nd (some aD) .nil .nil) .nil) (.nd (some aD) .nil .nil)) (.nd (some aD) (.nd (some aD) .nil .nil) (.nd (some ahZ) .nil .nil))) (.nd (some aD) (.nd none (.nd (some aD) .nil .nil) (.nd (some aD) .nil .nil)) (.nd (some aD) (.nd (some aD) .nil .nil) (.nd (some ahX) .nil .nil)))))))) (.nd (some ti1) (.nd (some ti2) (.nd (some ti4) (.nd (some ti9) (.nd none (.nd (some aqs) (.nd (some aqk) (.nd (some avU) (.nd (some aqC) .nil .nil) .nil) (.nd (some apV) .nil .nil)) (.nd none (.nd (some avK) .nil .nil) (.nd (some aqM) .nil .nil))) (.nd (some aD) (.nd (some av7) (.nd none (.nd (some aD) .nil .nil) .nil) (.nd (some aD) .nil .nil)) (.nd (some aD) (.nd (some aD) .nil .nil) (.nd (some aD) .nil .nil)))) (.nd (some aD) (.nd none (.nd (some aD) (.nd (some aqa) .nil .nil) (.nd (some aD) .nil .nil)) (.nd none (.nd (some aD) .nil .nil) (.nd (some aD) .nil .nil))) (.nd (some aqn) (.nd (some aD) (.nd (some ap7) (.nd (some ti3) .nil .nil) .nil) (.nd (some aD) .nil .nil)) (.nd (some avW) (.nd (some apZ) .nil .nil) (.nd (some aD) .nil .nil))))) (.nd (some aqv) (.nd (some aD) (.nd (some aD) (.nd (some aD) (.nd (some aqb) (.nd (some aD) .nil .nil) .nil) (.nd (some aD) .nil .nil)) (.nd (some aqg) (.nd (some avH) .nil .nil) .nil)) (.nd (some ajc) (.nd (some aD) (.nd (some aD) (.nd (some aqx) .nil .nil) .nil) (.nd (some ah3) .nil .nil)) (.nd (some ti6) (.nd (some aD) .nil .nil) .nil))) (.nd (some aD) (.nd (some aD) (.nd (some av8) (.nd (some aD) (.nd (some aD) .nil .nil) .nil) (.nd (some aD) .nil .nil)) (.nd (some avY) .nil (.nd (some aqH) .nil .nil))) (.nd (some awg) (.nd none (.nd (some SY) .nil .nil) (.nd (some aD) .nil .nil)) (.nd (some aD) (.nd (some apW) .nil .nil) (.nd (some aqG) .nil .nil)))))) (.nd (some ti6) (.nd none (.nd (some aD) (.nd (some aD) (.nd (some awe) (.nd (some aD) (.nd (some ahW) .nil .nil) .nil) .nil) (.nd (some aD) (.nd (some aD) .nil .nil) (.nd (some aD) .nil .nil))) (.nd (some aqp) (.nd (some aD) (.nd (some aD) (.nd (some aD) .nil .nil) .nil) (.nd (some aD) .nil .nil)) (.nd (some aD) (.nd (some avC) .nil .nil) .nil))) (.nd none (.nd (some awj) (.nd none (.nd (some aD) (.nd (some aD) .nil .nil) .nil) (.nd (some aD) .nil .nil)) (.nd (some aD) (.nd (some aD) .nil .nil) (.nd (some aqJ) .nil .nil))) (.nd (some aqm) (.nd (some aD) (.nd none (.nd (some aje) .nil .nil) .nil) (.nd (some aD) .nil .nil)) (.nd (some aD) (.nd (some apX) .nil .nil) .nil)))) (.nd none (.nd (some aD) (.nd (some aD) (.nd (some aD) (.nd (some avT) (.nd (some aD) .nil .nil) .nil) (.nd (some aD) .nil .nil)) (.nd (some aqf) (.nd (some ap0) .nil .nil) (.nd (some aqL) .nil .nil))) (.nd (some awi) (.nd (some aD) (.nd (some ap8) (.nd (some aqw) .nil .nil) .nil) (.nd (some aqS) .nil .nil)) (.nd (some aD) (.nd (some aD) .nil .nil) (.nd (some aD) .nil .nil)))) (.nd none (.nd (some aD) (.nd (some aD) (.nd (some avR) (.nd (some aD) .nil .nil) .nil) (.nd (some aD) .nil .nil)) (.nd none (.nd (some aD) .nil .nil) (.nd (some ahZ) .nil .nil))) (.nd (some aD) (.nd none (.nd (some avL) .nil .nil) (.nd (some aD) .nil .nil)) (.nd (some aD) (.nd (some aD) .nil .nil) (.nd (some aD) .nil .nil))))))) (.nd (some ti3) (.nd (some ti5) (.nd (some aqQ) (.nd (some aqu) (.nd (some aD) (.nd (some aD) (.nd (some aD) (.nd (some SY) .nil .nil) .nil) (.nd (some aD) .nil .nil)) (.nd none (.nd (some aD) .nil .nil) (.nd (some aD) .nil .nil))) (.nd (some aD) (.nd (some aD) (.nd (some aD) (.nd (some aD) .nil .nil) .nil) (.nd (some aD) .nil .nil)) (.nd (some aD) (.nd (some avE) .nil .nil) (.nd (some aD) .nil .nil)))) (.nd none (.nd none (.nd (some aqi) (.nd (some ap9) (.nd (some aD) .nil .nil) .nil) (.nd (some ah4) .nil .nil)) (.nd (some aD) (.nd (some aD) .nil .nil) .nil)) (.nd (some aD) (.nd (some aD) (.nd (some aD) (.nd (some aD) .nil .nil) .nil) .nil) (.nd (some aqd) (.nd (some apY) .nil .nil) .nil)))) (.nd (some aD) (.nd (some awo) (.nd (some aD) (.nd (some aD) (.nd (some aD) .nil .nil) (.nd (some apU) .nil .nil)) (.nd (some avZ) (.nd (some ap4) .nil .nil) (.nd (some ah2) .nil .nil))) (.nd (some aD) (.nd (some aD) (.nd (some avP) (.nd (some ahV) .nil .nil) .nil) (.nd (some aqT) .nil .nil)) (.nd (some aD) (.nd (some avB) .nil .nil) (.nd (some aD) .nil .nil)))) (.nd (some aD) (.nd none (.nd (some aD) (.nd (some aD) (.nd (some aqA) .nil .nil) .nil) (.nd (some aD) .nil .nil)) (.nd (some aqe) (.nd (some aD) .nil .nil) (.nd (some ah0) .nil .nil))) (.nd (some aql) (.nd (some ti6) (.nd (some ap6) .nil .nil) (.nd (some aD) .nil .nil)) (.nd (some aD) (.nd (some avz) .nil .nil) (.nd (some aqE) .nil .nil)))))) (.nd (some ti7) (.nd (some awq) (.nd (some aD) (.nd none (.nd (some aqj) (.nd (some aD) (.nd (some SY) .nil .nil) .nil) (.nd (some aD) .nil .nil)) (.nd (some aD) (.nd (some aD) .nil .nil) (.nd (some aD) .nil .nil))) (.nd (some aqo) (.nd (some aD) (.nd (some aD) (.nd (some aD) .nil .nil) .nil) (.nd (some aD) .nil .nil)) (.nd (some aD) (.nd (some aD) .nil .nil) (.nd (some ahY) .nil .nil)))) (.nd none (.nd (some aqr) (.nd (some aD) (.nd (some aD) .nil .nil) (.nd (some aqW) .nil .nil)) (.nd (some aD) (.nd (some aD) .nil .nil) (.nd (some ah1) .nil .nil))) (.nd (some aD) (.nd (some aqh) (.nd (some avM) (.nd (some ahU) .nil .nil) .nil) (.nd (some aD) .nil .nil)) (.nd (some aqc) (.nd (some aD) .nil .nil) (.nd (some aD) .nil .nil))))) (.nd (some ajd) (.nd (some aqt) (.nd (some aD) (.nd (some aD) (.nd (some aD) (.nd (some aD) .nil .nil) .nil) (.nd (some ah5) .nil .nil)) (.nd none .nil (.nd (some aD) .nil .nil))) (.nd (some aD) (.nd (some aD) (.nd (some avO) .nil .nil) (.nd (some aD) .nil .nil)) (.nd (some aD) (.nd (some aD) .nil .nil) (.nd (some aD) .nil .nil)))) (.nd (some awm) (.nd none (.nd (some aD) (.nd (some aD) .nil .nil) .nil) (.nd (some aD) (.nd (some avF) .nil .nil) (.nd (some aD) .nil .nil))) (.nd (some aD) (.nd none (.nd (some ap5) .nil .nil) (.nd (some aD) .nil .nil)) (.nd (some aD) (.nd (some aD) .nil .nil) (.nd (some ahX) .nil .nil)))))))))
theorem at7:ah6 Tryz.prog [1,2,3,4,5,6,7,8,9,10,11,12,13,14,15,16,17,18,19,21,22,23,24,25,26,27,29,30,31,33,34,35,36,37,38,39,40,41,42,44,45,46,48,49,51,53,55,56,57,58,59,61,62,63,64,65,66,67,68,69,71,72,74,75,76,77,78,79,81,83,84,85,86,87,88,89,91,92,93,95,96,97,98,99,100,101,102,103,104,105,106,107,108,110,111,112,113,114,115,116,117,118,119,120,121,122,123,124,125,126,127,128,129,130,131,132,133,134,135,136,137,138,139,140,141,142,143,144,145,146,147,149,150,151,152,153,154,155,156,157,158,159,160,161,162,163,164,165,166,168,169,170,172,173,174,176,177,178,179,180,181,182,183,185,186,187,193,195,196,197,198,199,200,201,202,203,204,205,209,210,211,212,213,214,215,216,217,218,219,221,222,223,224,225,226,227,228,229,230,231,232,233,234,236,237,238,239,240,241,242,244,245,246,247,248,249,250,251,252,253,254,255,256,257,258,259,260,261,262,263,264,266,267,268,269,270,271,272,273,274,275,276,277,278,279,280,281,282,283,284,285,286,287,289,290,291,292,294,295,296,297,298,299,300,301,302,303,304,305,306,307,309,310,311,312,313,314,315,316,317,318,319,320,321,322,323,324,325,326,327,328,329,330,331,332,333,335,336,337,338,339,340,341,342,343,345,346,347,348,349,350,351,352,353,354,355,356,357,358,359,360,361,362,363,364,365,366,367,368,369,370,371,372,373,374,375,376,378,379,380,381,382,383,384,385,386,387,389,390,391,392,393,394,395,396,397,398,399,400,401,402,403,404,406,407,408,409,410,411,412,413,415,416,418,419,420,422,423,424,425,426,427,428,429,430,431,432,433,435,436,437,438,440,442,444,445,446,447,448,449,450,451,452,453,454,455,457,458,459,460,462,463,464,465,467,468,469,470,471,472,473,474,475,476,477,478,479,480,481,482,483,485,486,487,489,490,491,492,493,494,495,496,497,499,501,502,503,504,505,506,507,508,509,510,511,512,513,514,515,516,517,518,519,520,521,523,524,525,526,527,529,530,531,532,533,535,536,537,538,539,540,541,543,544,545,546,547,548,549,550,551,552,553,554,555,556,559,560,561,562,563,564,565,566]=Tt:=by kernel_rfl
theorem at6:aW Tryz.prog Tt:=at7 ▸ XG _ _
def at5 (P:Program)(t:Nat)(k:Kd)(n:Nat)(chk:List Value→Bool):Bool:=match P.underlying t,P.info? t with
 |some d,some f=>match f.zero with
  |some z=>BD P d k && d.isRow && DD z && Nat.beq f.size n && chk z.cells.toList
  |none=>false
 |_,_=>false
theorem vT {P:Program}{t:Nat}{k:Kd}{n:Nat}{chk:List Value→Bool}(h:at5 P t k n chk=true){zl:List Value}(hc:∀l,chk l=true→l=zl):mO P t ⟨k,true,n,zl⟩:=by
 unfold at5 at h
 split at h
 case h_2=>cases h
 case h_1 d f hd hf=>
 split at h
 case h_2=>cases h
 case h_1 z hz=>
 simp only[Bool.and_eq_true] at h
 obtain⟨⟨⟨⟨h1,h2⟩,h3⟩,h4⟩,h5⟩:=h
 have h4:=(beq_iff _ _).1 h4
 refine⟨⟨d,hd,h2,h1⟩,⟨f,z,hf,h4,hz,hc _ h5⟩,fun hr=>(by cases hr),fun _=>⟨f,hf,?_⟩⟩
 have hzl:=hc _ h5
 cases z <;> first | (simp[DD] at h3;done) | skip
 rw[hz]
 show _=some (Value.agg zl.toArray)
 rw[← hzl]
 simp[Value.cells]
theorem yP:∀(l:List Value),NM l=true→l=List.replicate l.length (.int .u8 0)
 |[],_=>rfl
 | .int .u8 0::r,h=>by
   have:=yP r (by simpa [NM] using h)
   rw[List.length_cons,List.replicate_succ,← this]
def acP (n:Nat)(l:List Value):Bool:=cond (Nat.beq l.length n) (NM l) false
theorem yO {n:Nat}{l:List Value}(h:acP n l=true):l=List.replicate n (.int .u8 0):=by
 unfold acP at h
 cases hn:Nat.beq l.length n with
 |false=>rw[hn] at h;cases h
 |true=>
  rw[hn] at h
  rw[← (beq_iff _ _).1 hn]
  exact yP l h
theorem J5:∀(n:Nat) (l:List Value),Es n l=true→∃k,l=List.replicate n (.int .u64 0)++ .int .i64 0::List.replicate k (.int .u8 0)
 |0,.int .i64 0::r,h=>⟨r.length,by
  have:=yP r (by simpa [Es] using h)
  rw[List.replicate_zero,List.nil_append,← this]⟩
 |n+1,.int .u64 0::r,h=>by
  obtain⟨k,hk⟩:=J5 n r (by simpa [Es] using h)
  exact⟨k,by rw[hk,List.replicate_succ,List.cons_append]⟩
def eF (l:List Value):Bool:=cond (Nat.beq l.length 66561) (Es 1024 l) false
theorem acQ {l:List Value}(h:eF l=true):l=List.replicate 1024 (.int .u64 0)++ .int .i64 0::List.replicate 65536 (.int .u8 0):=by
 unfold eF at h
 cases hn:Nat.beq l.length 66561 with
 |false=>rw[hn] at h;cases h
 |true=>
  rw[hn] at h
  obtain⟨k,hk⟩:=J5 1024 l h
  have:=(beq_iff _ _).1 hn
  rw[hk,List.length_append,List.length_cons,List.length_replicate,List.length_replicate] at this
  have:k=65536:=by omega
  subst this
  exact hk
def ahT:aB:=⟨.array 65 5 1,true,65,List.replicate 65 (.int .u8 0)⟩
theorem XC:mO Tryz.prog 466 ahT:=vT (k:=.array 65 5 1) (chk:=acP 65) (by kernel_rfl) fun l h=>yO h
def ahR:aB:=⟨.array 64 5 1,true,64,List.replicate 64 (.int .u8 0)⟩
theorem XA:mO Tryz.prog 414 ahR:=vT (k:=.array 64 5 1) (chk:=acP 64) (by kernel_rfl) fun l h=>yO h
def Oq:aB:=⟨.array 65536 5 1,true,65536,List.replicate 65536 (.int .u8 0)⟩
theorem KY:mO Tryz.prog 190 Oq:=vT (k:=.array 65536 5 1) (chk:=acP 65536) (by kernel_rfl) fun l h=>yO h
def ahS:aB:=⟨.struct [(0,(189,1025)),(1025,(190,65536))],true,66561,List.replicate 1024 (.int .u64 0)++ .int .i64 0::List.replicate 65536 (.int .u8 0)⟩
theorem XB:mO Tryz.prog 192 ahS:=vT (chk:=eF) (by kernel_rfl) fun l h=>acQ h
theorem aW.put {P:Program}{T:bG}(h:aW P T){t:Nat}{i:aB}(hi:mO P t i):aW P (Tr.put 20 T t i):=fun t' i' hg=>by
 rcases Tr.gK _ _ _ _ _ _ hg with⟨rfl,rfl⟩ | hg
 ·exact hi
 ·exact h _ _ hg
def Tu:bG:=Tr.put 20 (Tr.put 20 (Tr.put 20 (Tr.put 20 Tt 414 ahR) 466 ahT) 190 Oq) 192 ahS
theorem Sl:aW Tryz.prog Tu:=(((at6.put XA).put XC).put KY).put XB
abbrev dN:=List AV×AV×Nat×List (Nat×aF)
def iq (gl:List (Nat×List Value)):List dN→Ci
 |[],_=>none
 |e::l,args=>cond (yY args e.1) (some (e.2.1,⟨e.2.2.1,e.2.2.2,[],gl⟩)) (iq gl l args)
theorem Br {gl:List (Nat×List Value)}:∀{l:List dN} {args:List AV} {v:AV} {W:AW},iq gl l args=some (v,W)→∃e∈l,args=e.1∧v=e.2.1∧W=⟨e.2.2.1,e.2.2.2,[],gl⟩
 |[],_,_,_,h=>by cases h
 |e::l,args,v,W,h=>by
  unfold iq at h
  cases hq:yY args e.1 with
  |true=>
   rw[hq] at h
   obtain⟨rfl,rfl⟩:=zw (zx h)
   exact⟨e,zn,Cb hq,rfl,rfl⟩
  |false=>
   rw[hq] at h
   obtain⟨e',he,h2⟩:=Br h
   exact⟨e',zm _ he,h2⟩
def dG (call:ag)(gl:List (Nat×List Value))(g:Nat)(e:dN):Bool:=cond (gV e.1) (WQ e.2.1 e.2.2.1 e.2.2.2 gl (call g e.1 ⟨0,[],[],gl⟩)) false
theorem ig {P:Program}{call:ag}(hC:ah P call)(gl:List (Nat×List Value))(g:Nat)(l:List dN)(h:l.all (dG call gl g)=true):ah P (fF gl g (iq gl l)):=
 qM hC gl g _ fun args v W hm=>by
  obtain⟨e,he,rfl,rfl,rfl⟩:=Br hm
  have:=List.all_eq_true.1 h e he
  unfold dG at this
  cases hf:gV e.1 with
  |false=>rw[hf] at this;cases this
  |true=>
   rw[hf] at this
   exact⟨rfl,vV this⟩
def bC:List (Nat×List Value):=[(0,[0,0,0,0,0,0,0,0,0,1,1,1,1,1,0,0,0,0,0,0,0,0,0,0,0,0,0,0,0,0,0,0,1].map (fun (n:Nat)=>Value.int .u8 n)++List.replicate 223 (.int .u8 0)),(2,Go.Lib.deBruijn64tab.map fun (n:Nat)=>.int .u8 (n:Int))]
def R3:Nat:=100000
noncomputable def aj (S:ag):ag:=(pR Tryz.prog Tu (R9 Tryz.prog Tu zJ) Ft S zJ R3).call
theorem abp (hM:Tryz.prog.follows .mixedOrders=true){S:ag}(hS:ah Tryz.prog S)(n:Nat):tV Tryz.prog (pR Tryz.prog Tu (R9 Tryz.prog Tu zJ) Ft S zJ n):=
 Dz Sl aiY hS vO (fun _ _ _ hC hY=>acJ hM Sl hC vO hY) n
theorem bD (hM:Tryz.prog.follows .mixedOrders=true){S:ag}(hS:ah Tryz.prog S):ah Tryz.prog (aj S):=(abp hM hS R3).call
theorem gN:Tryz.prog.follows .mixedOrders=true:=by kernel_rfl
abbrev aJ:=Nat×List Nat×List Nat×Bool×List Nat
def opG (p o:Nat)(d:aJ)(sl:AV):AV:=match d.1 with
 |1=>.agg [.int .i64 (.ofNat p),.int .u8 (.ofNat o),.str d.2.1,sl,.str d.2.2.1,.bool d.2.2.2.1]
 |_=>.agg [.int .i64 (.ofNat 0),.int .u8 (.ofNat 0),.str [],sl,.str [],.bool false]
def opC (l:List Nat):List AV:=l.map fun n=>.int .i64 (.ofNat n)
def opS (x:Nat):List Nat→AV
 |[]=>.aX
 |l=>.slice x 0 0 (Nat.div l.length 3) none
def opB (x:Nat):List Nat→List (Nat×aF)
 |[]=>[]
 |l=>[(x,.cells (opC l) 65 (some 3))]
def opE (p o:Nat)(d:aJ)(x:Nat×Nat):dN:=([.int .i64 (.ofNat p),.int .u8 (.ofNat o)],.tuple [opG p o d (opS x.2 d.2.2.2.2),.int .i64 (.ofNat d.1)],x.1,opB x.2 d.2.2.2.2)
def eD {α:Type}:List α→Nat→Option α
 |[],_=>none
 |x::l,n=>match n with
  |0=>some x
  |k+1=>eD l k
def aN (call:ag)(g p:Nat):Nat→List aJ→List (Nat×Nat)→Bool
 |o,d::l,x::m=>cond (dG call bC g (opE p o d x)) (aN call g p (o+1) l m) false
 |_,[],[]=>true
 |_,_,_=>false
theorem J9 {call:ag}{g p:Nat}:∀{ds:List aJ} {xs:List (Nat×Nat)} {o k:Nat} {d:aJ},aN call g p o ds xs=true→eD ds k=some d→∃x,eD xs k=some x∧dG call bC g (opE p (o+k) d x)=true
 |[],_,_,_,_,_,hd=>by cases hd
 |_::_,[],_,_,_,h,_=>by cases h
 |e::l,x::m,o,k,d,h,hd=>by
  unfold aN at h
  cases h1:dG call bC g (opE p o e x) with
  |false=>rw[h1] at h;cases h
  |true=>
  rw[h1] at h
  cases k with
  |zero=>
   obtain rfl:=zx hd
   exact⟨x,rfl,h1⟩
  |succ k=>
   obtain⟨y,h2,h3⟩:=J9 (show aN call g p (o+1) l m=true from h) (show eD l k=some d from hd)
   exact⟨y,h2,by rw[show o+(k+1)=o+1+k by omega];exact h3⟩
def zg (call:ag)(g p:Nat):Nat→List (List aJ)→List (List (Nat×Nat))→Prop
 |o,c::l,x::m=>aN call g p o c x=true∧zg call g p (o+16) l m
 |_,[],[]=>True
 |_,_,_=>False
theorem J8 {call:ag}{g p:Nat}:∀{ds:List (List aJ)} {xs:List (List (Nat×Nat))} {o k:Nat} {c:List aJ},zg call g p o ds xs→eD ds k=some c→∃x,eD xs k=some x∧aN call g p (o+16 * k) c x=true
 |[],_,_,_,_,_,hd=>by cases hd
 |_::_,[],_,_,_,h,_=>h.elim
 |e::l,x::m,o,k,c,h,hd=>by
  cases k with
  |zero=>
   obtain rfl:=zx hd
   exact⟨x,rfl,h.1⟩
  |succ k=>
   obtain⟨y,h2,h3⟩:=J8 h.2 (show eD l k=some c from hd)
   exact⟨y,h2,by rw[show o+16 * (k+1)=o+16+16 * k by omega];exact h3⟩
def aeG (call:ag)(g:Nat):Nat→List (List (List aJ))→List (List (List (Nat×Nat)))→Prop
 |p,c::l,x::m=>zg call g p 0 c x∧aeG call g (p+1) l m
 |_,[],[]=>True
 |_,_,_=>False
theorem J7 {call:ag}{g:Nat}:∀{ds:List (List (List aJ))} {xs:List (List (List (Nat×Nat)))} {p k:Nat} {c:List (List aJ)},aeG call g p ds xs→eD ds k=some c→∃x,eD xs k=some x∧zg call g (p+k) 0 c x
 |[],_,_,_,_,_,hd=>by cases hd
 |_::_,[],_,_,_,h,_=>h.elim
 |e::l,x::m,p,k,c,h,hd=>by
  cases k with
  |zero=>
   obtain rfl:=zx hd
   exact⟨x,rfl,h.1⟩
  |succ k=>
   obtain⟨y,h2,h3⟩:=J7 h.2 (show eD l k=some c from hd)
   exact⟨y,h2,by rw[show p+(k+1)=p+1+k by omega];exact h3⟩
def E8 {α:Type}(t:List (List (List α)))(p o:Nat):Option α:=match eD t p with
 |some l=>match eD l (Nat.div o 16) with
  |some c=>eD c (Nat.mod o 16)
  |none=>none
 |none=>none
theorem rY {α:Type}{t:List (List (List α))}{p o:Nat}{d:α}(h:E8 t p o=some d):∃l c,eD t p=some l∧eD l (o / 16)=some c∧eD c (o % 16)=some d:=by
 unfold E8 at h
 split at h
 case h_2=>cases h
 case h_1 l hl=>
 split at h
 case h_2=>cases h
 case h_1 c hc=>exact⟨l,c,hl,hc,h⟩
theorem Oo {α:Type}{t:List (List (List α))}{p o:Nat}{l:List (List α)}{c:List α}{d:α}(h1:eD t p=some l)(h2:eD l (o / 16)=some c)(h3:eD c (o % 16)=some d):E8 t p o=some d:=by
 unfold E8
 rw[h1]
 show (match eD l (o / 16) with | some c=>eD c (o % 16) | none=>none)=some d
 rw[h2]
 exact h3
def oz:aJ:=(0,[],[],false,[])
def oe (a b l:List Nat):aJ:=(1,a,b,false,l)
def oa (a b l:List Nat):aJ:=(1,a,b,true,l)
def awZ:List Nat:=[78,79,80]
def bF:List Nat:=[76,68]
def kP:List Nat:=[73,78,67]
def kQ:List Nat:=[68,69,67]
def asB:List Nat:=[82,76,67,65]
def nEX:List Nat:=[69,88]
def kR:List Nat:=[65,68,68]
def asA:List Nat:=[82,82,67,65]
def asO:List Nat:=[68,74,78,90]
def awX:List Nat:=[82,76,65]
def nJR:List Nat:=[74,82]
def awU:List Nat:=[82,82,65]
def aw5:List Nat:=[68,65,65]
def aw6:List Nat:=[67,80,76]
def awS:List Nat:=[83,67,70]
def aw9:List Nat:=[67,67,70]
def asM:List Nat:=[72,65,76,84]
def uV:List Nat:=[65,68,67]
def I1:List Nat:=[83,85,66]
def uU:List Nat:=[83,66,67]
def I7:List Nat:=[65,78,68]
def IZ:List Nat:=[88,79,82]
def nOR:List Nat:=[79,82]
def nCP:List Nat:=[67,80]
def Dv:List Nat:=[82,69,84]
def UO:List Nat:=[80,79,80]
def Xa:List Nat:=[74,80]
def qL:List Nat:=[67,65,76,76]
def Bp:List Nat:=[80,85,83,72]
def I4:List Nat:=[82,83,84]
def Dw:List Nat:=[79,85,84]
def aw4:List Nat:=[69,88,88]
def nIN:List Nat:=[73,78]
def nDI:List Nat:=[68,73]
def nEI:List Nat:=[69,73]
def am1:List Nat:=[82,76,67]
def am0:List Nat:=[82,82,67]
def nRL:List Nat:=[82,76]
def nRR:List Nat:=[82,82]
def amZ:List Nat:=[83,76,65]
def amX:List Nat:=[83,82,65]
def amY:List Nat:=[83,76,76]
def amW:List Nat:=[83,82,76]
def bT:List Nat:=[66,73,84]
def jc:List Nat:=[82,69,83]
def jb:List Nat:=[83,69,84]
def I6:List Nat:=[78,69,71]
def xm:List Nat:=[82,69,84,78]
def nIM:List Nat:=[73,77]
def asC:List Nat:=[82,69,84,73]
def awT:List Nat:=[82,82,68]
def awW:List Nat:=[82,76,68]
def aw0:List Nat:=[76,68,73]
def aw7:List Nat:=[67,80,73]
def aw2:List Nat:=[73,78,73]
def asD:List Nat:=[79,85,84,73]
def aw1:List Nat:=[76,68,68]
def aw8:List Nat:=[67,80,68]
def aw3:List Nat:=[73,78,68]
def asE:List Nat:=[79,85,84,68]
def asH:List Nat:=[76,68,73,82]
def asP:List Nat:=[67,80,73,82]
def asK:List Nat:=[73,78,73,82]
def asF:List Nat:=[79,84,73,82]
def asI:List Nat:=[76,68,68,82]
def asQ:List Nat:=[67,80,68,82]
def asL:List Nat:=[73,78,68,82]
def asG:List Nat:=[79,84,68,82]
def og (g:List Nat)(al:Bool)(a b p s:List Nat):List aJ:=[[1,0,0],[1,1,0],[1,2,0],[1,3,0],[1,4,0],[1,5,0],g,[1,7,0]].map fun r=>(1,a,b,al,p++(r++s))
def o8:=og [4,2,0]
def o7:=og []
def rp (n:Nat)(d:aJ):List aJ:=List.replicate n d
def aa3:List aJ:=[oe awZ [] [],oe bF [119] [3,0,0,6,0,0],oe bF [] [4,0,0,1,7,0],oe kP [] [3,0,0],oe kP [] [1,0,0],oe kQ [] [1,0,0],oe bF [110] [1,0,0,6,0,0],oe asB [] [],oe nEX [] [3,4,0,3,7,0],oe kR [] [3,2,0,3,0,0],oe bF [] [1,7,0,4,0,0],oe kQ [] [3,0,0],oe kP [] [1,1,0],oe kQ [] [1,1,0],oe bF [110] [1,1,0,6,0,0],oe asA [] []]
def aa2:List aJ:=[oe asO [101] [10,0,0],oe bF [119] [3,1,0,6,0,0],oe bF [] [4,1,0,1,7,0],oe kP [] [3,1,0],oe kP [] [1,2,0],oe kQ [] [1,2,0],oe bF [110] [1,2,0,6,0,0],oe awX [] [],oe nJR [101] [10,0,0],oe kR [] [3,2,0,3,1,0],oe bF [] [1,7,0,4,1,0],oe kQ [] [3,1,0],oe kP [] [1,3,0],oe kQ [] [1,3,0],oe bF [110] [1,3,0,6,0,0],oe awU [] []]
def aa1:List aJ:=[oe nJR [101] [8,0,0,10,0,0],oe bF [119] [3,2,0,6,0,0],oe bF [119] [7,0,0,3,2,0],oe kP [] [3,2,0],oe kP [] [1,4,0],oe kQ [] [1,4,0],oe bF [110] [1,4,0,6,0,0],oe aw5 [] [],oe nJR [101] [8,1,0,10,0,0],oe kR [] [3,2,0,3,2,0],oe bF [119] [3,2,0,7,0,0],oe kQ [] [3,2,0],oe kP [] [1,5,0],oe kQ [] [1,5,0],oe bF [110] [1,5,0,6,0,0],oe aw6 [] []]
def aa0:List aJ:=[oe nJR [101] [8,2,0,10,0,0],oe bF [119] [3,3,0,6,0,0],oe bF [119] [7,0,0,1,7,0],oe kP [] [3,3,0],oe kP [] [4,2,0],oe kQ [] [4,2,0],oe bF [110] [4,2,0,6,0,0],oe awS [] [],oe nJR [101] [8,3,0,10,0,0],oe kR [] [3,2,0,3,3,0],oe bF [119] [1,7,0,7,0,0],oe kQ [] [3,3,0],oe kP [] [1,7,0],oe kQ [] [1,7,0],oe bF [110] [1,7,0,6,0,0],oe aw9 [] []]
def aaZ:List aJ:=o8 false bF [] [1,0,0] []++o8 false bF [] [1,1,0] []
def aaY:List aJ:=o8 false bF [] [1,2,0] []++o8 false bF [] [1,3,0] []
def aaX:List aJ:=o8 false bF [] [1,4,0] []++o8 false bF [] [1,5,0] []
def aaW:List aJ:=[oe bF [] [4,2,0,1,0,0],oe bF [] [4,2,0,1,1,0],oe bF [] [4,2,0,1,2,0],oe bF [] [4,2,0,1,3,0],oe bF [] [4,2,0,1,4,0],oe bF [] [4,2,0,1,5,0],oe asM [] [],oe bF [] [4,2,0,1,7,0]]++o8 false bF [] [1,7,0] []
def aaV:List aJ:=o8 false kR [] [1,7,0] []++o8 false uV [] [1,7,0] []
def aaU:List aJ:=o8 false I1 [] [] []++o8 false uU [] [1,7,0] []
def MV:List aJ:=o8 false I7 [] [] []++o8 false IZ [] [] []
def MU:List aJ:=o8 false nOR [] [] []++o8 false nCP [] [] []
def MS:List aJ:=[oe Dv [] [8,0,0],oe UO [] [3,0,0],oe Xa [119] [8,0,0,6,0,0],oe Xa [119] [6,0,0],oe qL [119] [8,0,0,6,0,0],oe Bp [] [3,0,0],oe kR [110] [1,7,0,6,0,0],oe I4 [] [6,0,0],oe Dv [] [8,1,0],oe Dv [] [],oe Xa [119] [8,1,0,6,0,0],(2,[],[],false,[]),oe qL [119] [8,1,0,6,0,0],oe qL [119] [6,0,0],oe uV [110] [1,7,0,6,0,0],oe I4 [] [6,0,8]]
def MR:List aJ:=[oe Dv [] [8,2,0],oe UO [] [3,1,0],oe Xa [119] [8,2,0,6,0,0],oe Dw [110] [7,0,0,1,7,0],oe qL [119] [8,2,0,6,0,0],oe Bp [] [3,1,0],oe I1 [110] [6,0,0],oe I4 [] [6,0,16],oe Dv [] [8,3,0],oe aw4 [] [],oe Xa [119] [8,3,0,6,0,0],oe nIN [110] [1,7,0,7,0,0],oe qL [119] [8,3,0,6,0,0],(2,[],[],false,[]),oe uU [110] [1,7,0,6,0,0],oe I4 [] [6,0,24]]
def MQ:List aJ:=[oe Dv [] [8,4,0],oe UO [] [3,2,0],oe Xa [119] [8,4,0,6,0,0],oe nEX [] [4,3,0,3,2,0],oe qL [119] [8,4,0,6,0,0],oe Bp [] [3,2,0],oe I7 [110] [6,0,0],oe I4 [] [6,0,32],oe Dv [] [8,5,0],oe Xa [] [4,2,0],oe Xa [119] [8,5,0,6,0,0],oe nEX [] [3,1,0,3,2,0],oe qL [119] [8,5,0,6,0,0],(2,[],[],false,[]),oe IZ [110] [6,0,0],oe I4 [] [6,0,40]]
def MP:List aJ:=[oe Dv [] [8,6,0],oe UO [] [3,4,0],oe Xa [119] [8,6,0,6,0,0],oe nDI [] [],oe qL [119] [8,6,0,6,0,0],oe Bp [] [3,4,0],oe nOR [110] [6,0,0],oe I4 [] [6,0,48],oe Dv [] [8,7,0],oe bF [] [3,3,0,3,2,0],oe Xa [119] [8,7,0,6,0,0],oe nEI [] [],oe qL [119] [8,7,0,6,0,0],(2,[],[],false,[]),oe nCP [110] [6,0,0],oe I4 [] [6,0,56]]
def od0:List (List aJ):=[aa3,aa2,aa1,aa0,aaZ,aaY,aaX,aaW,aaV,aaU,MV,MU,MS,MR,MQ,MP]
def aaT:List aJ:=o8 false am1 [] [] []++o8 false am0 [] [] []
def aaS:List aJ:=o8 false nRL [] [] []++o8 false nRR [] [] []
def aaR:List aJ:=o8 false amZ [] [] []++o8 false amX [] [] []
def aaQ:List aJ:=o8 false amY [] [] []++o8 false amW [] [] []
def aaP:List aJ:=o8 false bT [] [6,0,0] []++o8 false bT [] [6,0,1] []
def aaO:List aJ:=o8 false bT [] [6,0,2] []++o8 false bT [] [6,0,3] []
def aaN:List aJ:=o8 false bT [] [6,0,4] []++o8 false bT [] [6,0,5] []
def aaM:List aJ:=o8 false bT [] [6,0,6] []++o8 false bT [] [6,0,7] []
def aaL:List aJ:=o8 false jc [] [6,0,0] []++o8 false jc [] [6,0,1] []
def aaK:List aJ:=o8 false jc [] [6,0,2] []++o8 false jc [] [6,0,3] []
def MO:List aJ:=o8 false jc [] [6,0,4] []++o8 false jc [] [6,0,5] []
def MN:List aJ:=o8 false jc [] [6,0,6] []++o8 false jc [] [6,0,7] []
def MM:List aJ:=o8 false jb [] [6,0,0] []++o8 false jb [] [6,0,1] []
def ML:List aJ:=o8 false jb [] [6,0,2] []++o8 false jb [] [6,0,3] []
def MK:List aJ:=o8 false jb [] [6,0,4] []++o8 false jb [] [6,0,5] []
def MJ:List aJ:=o8 false jb [] [6,0,6] []++o8 false jb [] [6,0,7] []
def od1:List (List aJ):=[aaT,aaS,aaR,aaQ,aaP,aaO,aaN,aaM,aaL,aaK,MO,MN,MM,ML,MK,MJ]
def aaJ:List aJ:=rp 16 ((3,[],[],false,[]))
def aaI:List aJ:=rp 16 ((3,[],[],false,[]))
def aaH:List aJ:=rp 16 ((3,[],[],false,[]))
def aaG:List aJ:=rp 16 ((3,[],[],false,[]))
def aaF:List aJ:=[oe nIN [] [1,0,0,4,8,0],oe Dw [] [4,8,0,1,0,0],oe uU [] [3,2,0,3,0,0],oe bF [119] [7,0,0,3,0,0],oe I6 [] [],oe xm [] [],oe nIM [] [6,0,0],oe bF [] [9,0,0,1,7,0],oe nIN [] [1,1,0,4,8,0],oe Dw [] [4,8,0,1,1,0],oe uV [] [3,2,0,3,0,0],oe bF [119] [3,0,0,7,0,0],oa I6 [] [],oe asC [] [],oa nIM [] [6,0,0],oe bF [] [9,1,0,1,7,0]]
def aaE:List aJ:=[oe nIN [] [1,2,0,4,8,0],oe Dw [] [4,8,0,1,2,0],oe uU [] [3,2,0,3,1,0],oe bF [119] [7,0,0,3,1,0],oa I6 [] [],oa xm [] [],oe nIM [] [6,0,1],oe bF [] [1,7,0,9,0,0],oe nIN [] [1,3,0,4,8,0],oe Dw [] [4,8,0,1,3,0],oe uV [] [3,2,0,3,1,0],oe bF [119] [3,1,0,7,0,0],oa I6 [] [],oa xm [] [],oe nIM [] [6,0,2],oe bF [] [1,7,0,9,1,0]]
def aaD:List aJ:=[oe nIN [] [1,4,0,4,8,0],oe Dw [] [4,8,0,1,4,0],oe uU [] [3,2,0,3,2,0],oa bF [119] [7,0,0,3,2,0],oa I6 [] [],oa xm [] [],oa nIM [] [6,0,0],oe awT [] [],oe nIN [] [1,5,0,4,8,0],oe Dw [] [4,8,0,1,5,0],oe uV [] [3,2,0,3,2,0],oa bF [119] [3,2,0,7,0,0],oa I6 [] [],oa xm [] [],oa nIM [] [6,0,0],oe awW [] []]
def aaC:List aJ:=[oe nIN [] [4,8,0],oe Dw [] [4,8,0,6,0,0],oe uU [] [3,2,0,3,3,0],oe bF [119] [7,0,0,3,3,0],oa I6 [] [],oa xm [] [],oa nIM [] [6,0,1],(3,[],[],false,[]),oe nIN [] [1,7,0,4,8,0],oe Dw [] [4,8,0,1,7,0],oe uV [] [3,2,0,3,3,0],oe bF [119] [3,3,0,7,0,0],oa I6 [] [],oa xm [] [],oa nIM [] [6,0,2],(3,[],[],false,[])]
def aaB:List aJ:=rp 16 ((3,[],[],false,[]))
def aaA:List aJ:=rp 16 ((3,[],[],false,[]))
def MI:List aJ:=[oe aw0 [] [],oe aw7 [] [],oe aw2 [] [],oe asD [] []]++rp 4 ((3,[],[],false,[]))++[oe aw1 [] [],oe aw8 [] [],oe aw3 [] [],oe asE [] []]++rp 4 ((3,[],[],false,[]))
def MH:List aJ:=[oe asH [] [],oe asP [] [],oe asK [] [],oe asF [] []]++rp 4 ((3,[],[],false,[]))++[oe asI [] [],oe asQ [] [],oe asL [] [],oe asG [] []]++rp 4 ((3,[],[],false,[]))
def MG:List aJ:=rp 16 ((3,[],[],false,[]))
def MF:List aJ:=rp 16 ((3,[],[],false,[]))
def MC:List aJ:=rp 16 ((3,[],[],false,[]))
def MB:List aJ:=rp 16 ((3,[],[],false,[]))
def od2:List (List aJ):=[aaJ,aaI,aaH,aaG,aaF,aaE,aaD,aaC,aaB,aaA,MI,MH,MG,MF,MC,MB]
def aaz:List aJ:=rp 9 oz++[oe kR [] [3,5,0,3,0,0]]++rp 6 oz
def aay:List aJ:=rp 9 oz++[oe kR [] [3,5,0,3,1,0]]++rp 6 oz
def aax:List aJ:=[oz,oe bF [119] [3,5,0,6,0,0],oe bF [119] [7,0,0,3,5,0],oe kP [] [3,5,0],oe kP [] [2,0,0],oe kQ [] [2,0,0],oe bF [110] [2,0,0,6,0,0],oz,oz,oe kR [] [3,5,0,3,5,0],oe bF [119] [3,5,0,7,0,0],oe kQ [] [3,5,0],oe kP [] [2,1,0],oe kQ [] [2,1,0],oe bF [110] [2,1,0,6,0,0],oz]
def aaw:List aJ:=rp 4 oz++[oe kP [100] [5,5,0],oe kQ [100] [5,5,0],oe bF [100,110] [5,5,0,6,0,0],oz,oz,oe kR [] [3,5,0,3,3,0]]++rp 6 oz
def aav:List aJ:=rp 4 oz++[oe bF [] [1,0,0,2,0,0],oe bF [] [1,0,0,2,1,0],oe bF [100] [1,0,0,5,5,0]]++rp 5 oz++[oe bF [] [1,1,0,2,0,0],oe bF [] [1,1,0,2,1,0],oe bF [100] [1,1,0,5,5,0],oz]
def aau:List aJ:=rp 4 oz++[oe bF [] [1,2,0,2,0,0],oe bF [] [1,2,0,2,1,0],oe bF [100] [1,2,0,5,5,0]]++rp 5 oz++[oe bF [] [1,3,0,2,0,0],oe bF [] [1,3,0,2,1,0],oe bF [100] [1,3,0,5,5,0],oz]
def aat:List aJ:=[oe bF [] [2,0,0,1,0,0],oe bF [] [2,0,0,1,1,0],oe bF [] [2,0,0,1,2,0],oe bF [] [2,0,0,1,3,0],oe bF [] [2,0,0,2,0,0],oe bF [] [2,0,0,2,1,0],oe bF [100] [1,4,0,5,5,0],oe bF [] [2,0,0,1,7,0],oe bF [] [2,1,0,1,0,0],oe bF [] [2,1,0,1,1,0],oe bF [] [2,1,0,1,2,0],oe bF [] [2,1,0,1,3,0],oe bF [] [2,1,0,2,0,0],oe bF [] [2,1,0,2,1,0],oe bF [100] [1,5,0,5,5,0],oe bF [] [2,1,0,1,7,0]]
def aas:List aJ:=[oe bF [100] [5,5,0,1,0,0],oe bF [100] [5,5,0,1,1,0],oe bF [100] [5,5,0,1,2,0],oe bF [100] [5,5,0,1,3,0],oe bF [100] [5,5,0,1,4,0],oe bF [100] [5,5,0,1,5,0],oz,oe bF [100] [5,5,0,1,7,0]]++rp 4 oz++[oe bF [] [1,7,0,2,0,0],oe bF [] [1,7,0,2,1,0],oe bF [100] [1,7,0,5,5,0],oz]
def aar:List aJ:=rp 4 oz++[oe kR [] [1,7,0,2,0,0],oe kR [] [1,7,0,2,1,0],oe kR [100] [1,7,0,5,5,0]]++rp 5 oz++[oe uV [] [1,7,0,2,0,0],oe uV [] [1,7,0,2,1,0],oe uV [100] [1,7,0,5,5,0],oz]
def aaq:List aJ:=rp 4 oz++[oe I1 [] [2,0,0],oe I1 [] [2,1,0],oe I1 [100] [5,5,0]]++rp 5 oz++[oe uU [] [1,7,0,2,0,0],oe uU [] [1,7,0,2,1,0],oe uU [100] [1,7,0,5,5,0],oz]
def Mx:List aJ:=rp 4 oz++[oe I7 [] [2,0,0],oe I7 [] [2,1,0],oe I7 [100] [5,5,0]]++rp 5 oz++[oe IZ [] [2,0,0],oe IZ [] [2,1,0],oe IZ [100] [5,5,0],oz]
def Mw:List aJ:=rp 4 oz++[oe nOR [] [2,0,0],oe nOR [] [2,1,0],oe nOR [100] [5,5,0]]++rp 5 oz++[oe nCP [] [2,0,0],oe nCP [] [2,1,0],oe nCP [100] [5,5,0],oz]
def Mv:List aJ:=rp 11 oz++[(2,[],[],false,[])]++rp 4 oz
def Mt:List aJ:=rp 16 oz
def Ms:List aJ:=[oz,oe UO [] [3,5,0],oz,oe nEX [] [4,3,0,3,5,0],oz,oe Bp [] [3,5,0],oz,oz,oz,oe Xa [] [4,5,0]]++rp 6 oz
def Mr:List aJ:=rp 9 oz++[oe bF [] [3,3,0,3,5,0]]++rp 6 oz
def od3:List (List aJ):=[aaz,aay,aax,aaw,aav,aau,aat,aas,aar,aaq,Mx,Mw,Mv,Mt,Ms,Mr]
def aap:List aJ:=rp 9 oz++[oe kR [] [3,6,0,3,0,0]]++rp 6 oz
def aao:List aJ:=rp 9 oz++[oe kR [] [3,6,0,3,1,0]]++rp 6 oz
def aan:List aJ:=[oz,oe bF [119] [3,6,0,6,0,0],oe bF [119] [7,0,0,3,6,0],oe kP [] [3,6,0],oe kP [] [2,2,0],oe kQ [] [2,2,0],oe bF [110] [2,2,0,6,0,0],oz,oz,oe kR [] [3,6,0,3,6,0],oe bF [119] [3,6,0,7,0,0],oe kQ [] [3,6,0],oe kP [] [2,3,0],oe kQ [] [2,3,0],oe bF [110] [2,3,0,6,0,0],oz]
def aam:List aJ:=rp 4 oz++[oe kP [100] [5,6,0],oe kQ [100] [5,6,0],oe bF [100,110] [5,6,0,6,0,0],oz,oz,oe kR [] [3,6,0,3,3,0]]++rp 6 oz
def aal:List aJ:=rp 4 oz++[oe bF [] [1,0,0,2,2,0],oe bF [] [1,0,0,2,3,0],oe bF [100] [1,0,0,5,6,0]]++rp 5 oz++[oe bF [] [1,1,0,2,2,0],oe bF [] [1,1,0,2,3,0],oe bF [100] [1,1,0,5,6,0],oz]
def aak:List aJ:=rp 4 oz++[oe bF [] [1,2,0,2,2,0],oe bF [] [1,2,0,2,3,0],oe bF [100] [1,2,0,5,6,0]]++rp 5 oz++[oe bF [] [1,3,0,2,2,0],oe bF [] [1,3,0,2,3,0],oe bF [100] [1,3,0,5,6,0],oz]
def aaj:List aJ:=[oe bF [] [2,2,0,1,0,0],oe bF [] [2,2,0,1,1,0],oe bF [] [2,2,0,1,2,0],oe bF [] [2,2,0,1,3,0],oe bF [] [2,2,0,2,2,0],oe bF [] [2,2,0,2,3,0],oe bF [100] [1,4,0,5,6,0],oe bF [] [2,2,0,1,7,0],oe bF [] [2,3,0,1,0,0],oe bF [] [2,3,0,1,1,0],oe bF [] [2,3,0,1,2,0],oe bF [] [2,3,0,1,3,0],oe bF [] [2,3,0,2,2,0],oe bF [] [2,3,0,2,3,0],oe bF [100] [1,5,0,5,6,0],oe bF [] [2,3,0,1,7,0]]
def aai:List aJ:=[oe bF [100] [5,6,0,1,0,0],oe bF [100] [5,6,0,1,1,0],oe bF [100] [5,6,0,1,2,0],oe bF [100] [5,6,0,1,3,0],oe bF [100] [5,6,0,1,4,0],oe bF [100] [5,6,0,1,5,0],oz,oe bF [100] [5,6,0,1,7,0]]++rp 4 oz++[oe bF [] [1,7,0,2,2,0],oe bF [] [1,7,0,2,3,0],oe bF [100] [1,7,0,5,6,0],oz]
def aah:List aJ:=rp 4 oz++[oe kR [] [1,7,0,2,2,0],oe kR [] [1,7,0,2,3,0],oe kR [100] [1,7,0,5,6,0]]++rp 5 oz++[oe uV [] [1,7,0,2,2,0],oe uV [] [1,7,0,2,3,0],oe uV [100] [1,7,0,5,6,0],oz]
def aag:List aJ:=rp 4 oz++[oe I1 [] [2,2,0],oe I1 [] [2,3,0],oe I1 [100] [5,6,0]]++rp 5 oz++[oe uU [] [1,7,0,2,2,0],oe uU [] [1,7,0,2,3,0],oe uU [100] [1,7,0,5,6,0],oz]
def Mq:List aJ:=rp 4 oz++[oe I7 [] [2,2,0],oe I7 [] [2,3,0],oe I7 [100] [5,6,0]]++rp 5 oz++[oe IZ [] [2,2,0],oe IZ [] [2,3,0],oe IZ [100] [5,6,0],oz]
def Mo:List aJ:=rp 4 oz++[oe nOR [] [2,2,0],oe nOR [] [2,3,0],oe nOR [100] [5,6,0]]++rp 5 oz++[oe nCP [] [2,2,0],oe nCP [] [2,3,0],oe nCP [100] [5,6,0],oz]
def Mm:List aJ:=rp 11 oz++[(2,[],[],false,[])]++rp 4 oz
def Ml:List aJ:=rp 16 oz
def Mk:List aJ:=[oz,oe UO [] [3,6,0],oz,oe nEX [] [4,3,0,3,6,0],oz,oe Bp [] [3,6,0],oz,oz,oz,oe Xa [] [4,6,0]]++rp 6 oz
def Mj:List aJ:=rp 9 oz++[oe bF [] [3,3,0,3,6,0]]++rp 6 oz
def od4:List (List aJ):=[aap,aao,aan,aam,aal,aak,aaj,aai,aah,aag,Mq,Mo,Mm,Ml,Mk,Mj]
def aaf:List aJ:=o7 false am1 [100] [5,5,0] []++o7 false am0 [100] [5,5,0] []
def aae:List aJ:=o7 false nRL [100] [5,5,0] []++o7 false nRR [100] [5,5,0] []
def aad:List aJ:=o7 false amZ [100] [5,5,0] []++o7 false amX [100] [5,5,0] []
def aac:List aJ:=o7 false amY [100] [5,5,0] []++o7 false amW [100] [5,5,0] []
def aab:List aJ:=rp 6 (oa bT [100] [6,0,0,5,5,0])++[oe bT [100] [6,0,0,5,5,0],oa bT [100] [6,0,0,5,5,0]]++rp 6 (oa bT [100] [6,0,1,5,5,0])++[oe bT [100] [6,0,1,5,5,0],oa bT [100] [6,0,1,5,5,0]]
def aaa:List aJ:=rp 6 (oa bT [100] [6,0,2,5,5,0])++[oe bT [100] [6,0,2,5,5,0],oa bT [100] [6,0,2,5,5,0]]++rp 6 (oa bT [100] [6,0,3,5,5,0])++[oe bT [100] [6,0,3,5,5,0],oa bT [100] [6,0,3,5,5,0]]
def Z9:List aJ:=rp 6 (oa bT [100] [6,0,4,5,5,0])++[oe bT [100] [6,0,4,5,5,0],oa bT [100] [6,0,4,5,5,0]]++rp 6 (oa bT [100] [6,0,5,5,5,0])++[oe bT [100] [6,0,5,5,5,0],oa bT [100] [6,0,5,5,5,0]]
def Z8:List aJ:=rp 6 (oa bT [100] [6,0,6,5,5,0])++[oe bT [100] [6,0,6,5,5,0],oa bT [100] [6,0,6,5,5,0]]++rp 6 (oa bT [100] [6,0,7,5,5,0])++[oe bT [100] [6,0,7,5,5,0],oa bT [100] [6,0,7,5,5,0]]
def Z7:List aJ:=o7 false jc [100] [6,0,0,5,5,0] []++o7 false jc [100] [6,0,1,5,5,0] []
def Z6:List aJ:=o7 false jc [100] [6,0,2,5,5,0] []++o7 false jc [100] [6,0,3,5,5,0] []
def Mi:List aJ:=o7 false jc [100] [6,0,4,5,5,0] []++o7 false jc [100] [6,0,5,5,5,0] []
def Mh:List aJ:=o7 false jc [100] [6,0,6,5,5,0] []++o7 false jc [100] [6,0,7,5,5,0] []
def Mg:List aJ:=o7 false jb [100] [6,0,0,5,5,0] []++o7 false jb [100] [6,0,1,5,5,0] []
def Mf:List aJ:=o7 false jb [100] [6,0,2,5,5,0] []++o7 false jb [100] [6,0,3,5,5,0] []
def Me:List aJ:=o7 false jb [100] [6,0,4,5,5,0] []++o7 false jb [100] [6,0,5,5,5,0] []
def Md:List aJ:=o7 false jb [100] [6,0,6,5,5,0] []++o7 false jb [100] [6,0,7,5,5,0] []
def od5:List (List aJ):=[aaf,aae,aad,aac,aab,aaa,Z9,Z8,Z7,Z6,Mi,Mh,Mg,Mf,Me,Md]
def Z5:List aJ:=o7 false am1 [100] [5,6,0] []++o7 false am0 [100] [5,6,0] []
def Z4:List aJ:=o7 false nRL [100] [5,6,0] []++o7 false nRR [100] [5,6,0] []
def Z0:List aJ:=o7 false amZ [100] [5,6,0] []++o7 false amX [100] [5,6,0] []
def ZZ:List aJ:=o7 false amY [100] [5,6,0] []++o7 false amW [100] [5,6,0] []
def ZY:List aJ:=rp 6 (oa bT [100] [6,0,0,5,6,0])++[oe bT [100] [6,0,0,5,6,0],oa bT [100] [6,0,0,5,6,0]]++rp 6 (oa bT [100] [6,0,1,5,6,0])++[oe bT [100] [6,0,1,5,6,0],oa bT [100] [6,0,1,5,6,0]]
def ZX:List aJ:=rp 6 (oa bT [100] [6,0,2,5,6,0])++[oe bT [100] [6,0,2,5,6,0],oa bT [100] [6,0,2,5,6,0]]++rp 6 (oa bT [100] [6,0,3,5,6,0])++[oe bT [100] [6,0,3,5,6,0],oa bT [100] [6,0,3,5,6,0]]
def ZW:List aJ:=rp 6 (oa bT [100] [6,0,4,5,6,0])++[oe bT [100] [6,0,4,5,6,0],oa bT [100] [6,0,4,5,6,0]]++rp 6 (oa bT [100] [6,0,5,5,6,0])++[oe bT [100] [6,0,5,5,6,0],oa bT [100] [6,0,5,5,6,0]]
def ZV:List aJ:=rp 6 (oa bT [100] [6,0,6,5,6,0])++[oe bT [100] [6,0,6,5,6,0],oa bT [100] [6,0,6,5,6,0]]++rp 6 (oa bT [100] [6,0,7,5,6,0])++[oe bT [100] [6,0,7,5,6,0],oa bT [100] [6,0,7,5,6,0]]
def ZU:List aJ:=o7 false jc [100] [6,0,0,5,6,0] []++o7 false jc [100] [6,0,1,5,6,0] []
def ZT:List aJ:=o7 false jc [100] [6,0,2,5,6,0] []++o7 false jc [100] [6,0,3,5,6,0] []
def Mc:List aJ:=o7 false jc [100] [6,0,4,5,6,0] []++o7 false jc [100] [6,0,5,5,6,0] []
def Ma:List aJ:=o7 false jc [100] [6,0,6,5,6,0] []++o7 false jc [100] [6,0,7,5,6,0] []
def L9:List aJ:=o7 false jb [100] [6,0,0,5,6,0] []++o7 false jb [100] [6,0,1,5,6,0] []
def L8:List aJ:=o7 false jb [100] [6,0,2,5,6,0] []++o7 false jb [100] [6,0,3,5,6,0] []
def LZ:List aJ:=o7 false jb [100] [6,0,4,5,6,0] []++o7 false jb [100] [6,0,5,5,6,0] []
def LY:List aJ:=o7 false jb [100] [6,0,6,5,6,0] []++o7 false jb [100] [6,0,7,5,6,0] []
def od6:List (List aJ):=[Z5,Z4,Z0,ZZ,ZY,ZX,ZW,ZV,ZU,ZT,Mc,Ma,L9,L8,LZ,LY]
def rn (n c:Nat):List Nat:=List.replicate n c
def ax (l:List Nat):List (Nat×Nat):=l.map fun c=>(c / 8,cond (Nat.beq (c % 8) 7) 0 (c / 8 - c % 8))
def nxd:List Nat:=[0,1,3,11,12,14,985,992,998,999,1002,1004,1006,1007,1009,1010,1012,1013]
def aio:Nat→List Nat→Nat
 |_,[]=>0
 |0,x::_=>x
 |k+1,_::l=>aio k l
def rx (l:List Nat):List (Nat×Nat):=l.map fun c=>(c / 64,cond (Nat.beq (c % 64) 63) 0 (c / 64+aio (c % 64) nxd - 15))
def Ga:List (List (List aJ)):=[od0,od1,od2,od3,od4,od5,od6]
def gL (p o:Nat):Option aJ:=E8 Ga p o
theorem Er {call:ag}{g:Nat}{xs:List (List (List (Nat×Nat)))}(h:aeG call g 0 Ga xs){p o:Nat}{d:aJ}(hd:gL p o=some d):∃x,E8 xs p o=some x∧dG call bC g (opE p o d x)=true:=by
 obtain⟨l,c,h1,h2,h3⟩:=rY hd
 obtain⟨x1,e1,k1⟩:=J7 h h1
 obtain⟨x2,e2,k2⟩:=J8 k1 h2
 obtain⟨x3,e3,k3⟩:=J9 k2 h3
 refine⟨x3,Oo e1 e2 e3,?_⟩
 rw[show 0+p=p by omega,show 0+16 * (o / 16)+o % 16=o by omega] at k3
 exact k3
theorem kZ {call:ag}{gl:List (Nat×List Value)}{g:Nat}{e:dN}(h:dG call gl g e=true):gV e.1=true∧call g e.1 ⟨0,[],[],gl⟩=some (e.2.1,⟨e.2.2.1,e.2.2.2,[],gl⟩):=by
 unfold dG at h
 cases hf:gV e.1 with
 |false=>rw[hf] at h;cases h
 |true=>
  rw[hf] at h
  exact⟨rfl,vV h⟩
def opM (xs:List (List (List (Nat×Nat)))):Ci
 |[.int .i64 (.ofNat p),.int .u8 (.ofNat o)]=>match gL p o with
  |some d=>match E8 xs p o with
   |some x=>some ((opE p o d x).2.1,⟨(opE p o d x).2.2.1,(opE p o d x).2.2.2,[],bC⟩)
   |none=>none
  |none=>none
 |_=>none
theorem amG {P:Program}{call:ag}(hC:ah P call){g:Nat}{xs:List (List (List (Nat×Nat)))}(h:aeG call g 0 Ga xs):ah P (fF bC g (opM xs)):=qM hC bC _ _ fun args v W hm=>by
 unfold opM at hm
 split at hm
 case h_2=>cases hm
 case h_1 p o=>
 split at hm
 case h_2=>cases hm
 case h_1 d hd=>
 split at hm
 case h_2=>cases hm
 case h_1 x hx=>
 obtain⟨rfl,rfl⟩:=zw (zx hm)
 obtain⟨y,hy,hz⟩:=Er h hd
 rw[hx] at hy
 obtain rfl:=zx hy
 exact kZ hz
def FC (x:Nat):List Nat→AV
 |[]=>.aX
 |l=>cond (Nat.ble 1000 x) (.slice (Nat.sub x 1000) 0 0 (Nat.div l.length 3) (some (Nat.div l.length 3))) (.slice x 0 0 (Nat.div l.length 3) none)
def Zd (x:Nat):List Nat→List (Nat×aF)
 |[]=>[]
 |l=>cond (Nat.ble 1000 x) [(Nat.sub x 1000,.cells (opC l) 65 none)] [(x,.cells (opC l) 65 (some 3))]
def Un (p o:Nat)(d:aJ)(x:Nat×Nat):dN:=([.int .i64 (.ofNat p),.int .u8 (.ofNat o)],.tuple [opG p o d (FC x.2 d.2.2.2.2),.int .i64 (.ofNat d.1)],x.1,Zd x.2 d.2.2.2.2)
def av (call:ag)(g p:Nat):Nat→List aJ→List (Nat×Nat)→Bool
 |o,d::l,x::m=>cond (dG call bC g (Un p o d x)) (av call g p (o+1) l m) false
 |_,[],[]=>true
 |_,_,_=>false
theorem Ba {call:ag}{g p:Nat}:∀{ds:List aJ} {xs:List (Nat×Nat)} {o k:Nat} {d:aJ},av call g p o ds xs=true→eD ds k=some d→∃x,eD xs k=some x∧dG call bC g (Un p (o+k) d x)=true
 |[],_,_,_,_,_,hd=>by cases hd
 |_::_,[],_,_,_,h,_=>by cases h
 |e::l,x::m,o,k,d,h,hd=>by
  unfold av at h
  cases h1:dG call bC g (Un p o e x) with
  |false=>rw[h1] at h;cases h
  |true=>
  rw[h1] at h
  cases k with
  |zero=>
   obtain rfl:=zx hd
   exact⟨x,rfl,h1⟩
  |succ k=>
   obtain⟨y,h2,h3⟩:=Ba (show av call g p (o+1) l m=true from h) (show eD l k=some d from hd)
   exact⟨y,h2,by rw[show o+(k+1)=o+1+k by omega];exact h3⟩
def ni (call:ag)(g p:Nat):Nat→List (List aJ)→List (List (Nat×Nat))→Prop
 |o,c::l,x::m=>av call g p o c x=true∧ni call g p (o+16) l m
 |_,[],[]=>True
 |_,_,_=>False
theorem AZ {call:ag}{g p:Nat}:∀{ds:List (List aJ)} {xs:List (List (Nat×Nat))} {o k:Nat} {c:List aJ},ni call g p o ds xs→eD ds k=some c→∃x,eD xs k=some x∧av call g p (o+16 * k) c x=true
 |[],_,_,_,_,_,hd=>by cases hd
 |_::_,[],_,_,_,h,_=>h.elim
 |e::l,x::m,o,k,c,h,hd=>by
  cases k with
  |zero=>
   obtain rfl:=zx hd
   exact⟨x,rfl,h.1⟩
  |succ k=>
   obtain⟨y,h2,h3⟩:=AZ h.2 (show eD l k=some c from hd)
   exact⟨y,h2,by rw[show o+16 * (k+1)=o+16+16 * k by omega];exact h3⟩
def OJ (call:ag)(g:Nat):Nat→List (List (List aJ))→List (List (List (Nat×Nat)))→Prop
 |p,c::l,x::m=>ni call g p 0 c x∧OJ call g (p+1) l m
 |_,[],[]=>True
 |_,_,_=>False
theorem AY {call:ag}{g:Nat}:∀{ds:List (List (List aJ))} {xs:List (List (List (Nat×Nat)))} {p k:Nat} {c:List (List aJ)},OJ call g p ds xs→eD ds k=some c→∃x,eD xs k=some x∧ni call g (p+k) 0 c x
 |[],_,_,_,_,_,hd=>by cases hd
 |_::_,[],_,_,_,h,_=>h.elim
 |e::l,x::m,p,k,c,h,hd=>by
  cases k with
  |zero=>
   obtain rfl:=zx hd
   exact⟨x,rfl,h.1⟩
  |succ k=>
   obtain⟨y,h2,h3⟩:=AY h.2 (show eD l k=some c from hd)
   exact⟨y,h2,by rw[show p+(k+1)=p+1+k by omega];exact h3⟩
theorem FJ {call:ag}{g:Nat}{xs:List (List (List (Nat×Nat)))}(h:OJ call g 0 Ga xs){p o:Nat}{d:aJ}(hd:gL p o=some d):∃x,E8 xs p o=some x∧dG call bC g (Un p o d x)=true:=by
 obtain⟨l,c,h1,h2,h3⟩:=rY hd
 obtain⟨x1,e1,k1⟩:=AY h h1
 obtain⟨x2,e2,k2⟩:=AZ k1 h2
 obtain⟨x3,e3,k3⟩:=Ba k2 h3
 refine⟨x3,Oo e1 e2 e3,?_⟩
 rw[show 0+p=p by omega,show 0+16 * (o / 16)+o % 16=o by omega] at k3
 exact k3
end Go.Proofs.YtceaodnohnekkaaGreatDoor.Ex
namespace Go.Proofs.YtceaodnohnekkaaGreatDoor
open Go.RowKit
theorem jN:El Tryz.prog 25 5 (.int .u8 0) 1 1:=⟨Tryz.underlying25,by kernel_rfl,rfl,by decide⟩
theorem Zw {w2:World}{B:Nat}{v:Value}{d:List UInt8}{k:Nat}{y:UInt8}{z:Int}(h:w2.ownsRow B 5 1 v (k+1) (bs d++[.int .u8 z]))(hz:z=(y.toNat:Int)):w2.ownsRow B 5 1 v (k+1) (bs (d++[y])):=by
 rw[BV,← show [Value.int .u8 z]=bs [y] from by rw[hz];rfl]
 exact h
set_option maxHeartbeats 400000 in
def ils (zs:List Int):List Value:=zs.map (Value.int .i64)
theorem Rd.aiI {w:World}{p:Nat→Prop}{A:Option Addr}{zs:List Int}(h:Rd w p A (ils zs)){k:Nat}(hk:k < zs.length):
 ∃b o z,A=some ⟨b,o,none⟩∧w.cell? ⟨b,o+k,none⟩=some (.int .i64 z)∧zs[k]? =some z:=by
 have hx:k < (ils zs).length:=by simp[ils];exact hk
 obtain⟨b,o,h1,_,h3⟩:=h.ex (fun e=>by rw[e] at hx;simp at hx)
 exact⟨b,o,zs[k],h1,h3 k _ (by simp[ils,hk]),List.getElem?_eq_getElem hk⟩
def pU (z:Int):UInt8:=UInt8.ofNat (z % 256).toNat
theorem xy (z:Int):((pU z).toNat:Int)=z % 256:=by
 unfold pU
 rw[UInt8.toNat_ofNat']
 omega
theorem abr {zs:List Int}{k:Nat}{z:Int}(h:zs[k]? =some z):(zs.take (k+1)).map pU=(zs.take k).map pU++[pU z]:=by
 rw[take_at h,List.map_append]
 rfl
set_option maxHeartbeats 400000 in
theorem agG (A:Option Addr)(zs:List Int)(c:Nat)(w:World)(p:Nat→Prop)(hm:(zs.length:Int)≤140737488355328)(h:Rd w p A (ils zs)):
 Calls Tryz.prog 145 #[.slice A zs.length c] w fun e w'=>∃v,e= .returned v∧w'.ownsRow w.heap.size 5 1 v zs.length (bs (zs.map pU))∧Below w.heap.size w w':=by
 have HR:=zz h
 obtain⟨n,hn⟩:∃n,zs.length=n:=⟨_,rfl⟩
 rw[hn] at hm
 rw[hn]
 have HN:=zz hn
 clear h hn
 go_enter Tryz.func145,Tryz.ntmps145
 go_wp2
 go_loopw [3,8] (fun u v W=>∃k:Nat,(k:Int)≤n∧v= .int .i64 k∧Hid (W.ownsRow w.heap.size 5 1 u k (bs ((zs.take k).map pU)))∧Hid (Below w.heap.size w W)) (fun _ v _=>n - (intOf v).toNat)
 case atStart=>exact⟨0,by omega,rfl,World.ownsRow_nil _ _ _ _,zo _ _⟩
 case round=>
  obtain⟨k,hk,rfl,hO,hQ⟩:=hrel
  obtain⟨A3,c3,rfl,_⟩:=jB hO.out
  by_cases hlt:k < n
  ·obtain⟨b,o,z,rfl,hc0,hz⟩:=HR.out.aiI (k:=k) (by rw[HN.out];exact hlt)
   have hc:=(hQ.out.cell (p:=⟨b,o+k,none⟩) (lt_of_cell hc0)).trans hc0
   have HZ:=zz hz
   clear hz hc0
   go_wp2_with (at_builtin;refine eY jN rfl (.tmp 12) (.tmp 15) rfl w.heap.size _ k _ (fun _=>True) _ 1 1 [.int .u8 _] rfl rfl (hO.out.alloc _) rfl (Rd.new _ _ _ trivial) (by intro u hu;simp at hu;subst hu;rfl) (by simp only[maxLen];omega) (by omega) (by simp;have:=hQ.out.size;omega) ?_;intro v2 w2 hown2 hg2 agY hz2;have HO:=zz hown2;have HB:=zz ((hQ.out.alloc hQ.out.size _).grown hg2 (by simp;have:=hQ.out.size;omega) (fun q hq=>(hO.out.lt q hq).1));clear hown2 hg2 agY hz2)
   go_roundw
   case rel=>exact⟨k+1,by omega,by go_num,by rw[abr HZ.out];exact Zw HO.out (xy z).symm,HB.out⟩
   case measure=>simp[intOf];omega
  ·obtain rfl:k=n:=by omega
   have HE:Hid (wr.ownsRow w.heap.size 5 1 (.slice A3 k c3) k (bs (zs.map pU))):=by
    have:=hO.out
    rw[List.take_of_length_le (by rw[HN.out];omega)] at this
    exact this
   go_wp2
   go_ret
   exact⟨_,rfl,HE.out,hQ.out⟩
def ic (lo hi:Int)(zs:List Int):Bool:=zs.all fun n=>decide (lo≤n) && decide (n≤hi)
theorem aa8 {lo hi:Int}{zs:List Int}{k:Nat}{z:Int}(h:ic lo hi zs=true)(hz:zs[k]? =some z):lo≤z∧z≤hi:=by
 unfold ic at h
 rw[List.all_eq_true] at h
 simpa using h z (List.mem_of_getElem? hz)
theorem IU {lo hi:Int}{zs:List Int}{k:Nat}{z:Int}(hz:zs[k]? =some z)(h:¬(lo≤z∧z≤hi)):ic lo hi zs=false:=by
 cases hf:ic lo hi zs
 ·rfl
 ·exact absurd (aa8 hf hz) h
theorem MX {lo hi:Int}{zs:List Int}{k:Nat}{z:Int}(h:ic lo hi (zs.take k)=true)(hz:zs[k]? =some z)(h2:lo≤z∧z≤hi):ic lo hi (zs.take (k+1))=true:=by
 rw[take_at hz]
 unfold ic at *
 rw[List.all_append,h]
 simpa using h2
set_option maxHeartbeats 400000 in
theorem Bj (lo hi:Int)(A:Option Addr)(zs:List Int)(c:Nat)(w:World)(p:Nat→Prop)(hm:(zs.length:Int)≤140737488355328)(h:Rd w p A (ils zs)):
 Calls Tryz.prog 188 #[.int .i64 lo,.int .i64 hi,.slice A zs.length c] w fun e w'=>e= .returned (.bool (ic lo hi zs))∧w=w':=by
 have HR:=zz h
 obtain⟨n,hn⟩:∃n,zs.length=n:=⟨_,rfl⟩
 rw[hn] at hm
 rw[hn]
 have HN:=zz hn
 clear h hn
 go_enter Tryz.func188,Tryz.ntmps188
 go_wp2
 go_loop [11] (fun v=>∃k:Nat,(k:Int)≤n∧v= .int .i64 k∧Hid (ic lo hi (zs.take k)=true)) (fun v=>n - (intOf v).toNat)
 case atStart=>exact⟨0,by omega,rfl,rfl⟩
 case round=>
  obtain⟨k,hk,rfl,hF⟩:=hrel
  by_cases hlt:k < n
  ·obtain⟨b,o,z,rfl,hc,hz⟩:=HR.out.aiI (k:=k) (by rw[HN.out];exact hlt)
   have HZ:=zz hz
   clear hz
   rcases Int.lt_or_le z lo with h1 | h1
   ·have HE:=zz (IU HZ.out (lo:=lo) (hi:=hi) (by omega))
    go_wp2
    go_ret
    exact⟨aQ HE.out.symm,rfl⟩
   ·rcases Int.lt_or_le hi z with h2 | h2
    ·have HE:=zz (IU HZ.out (lo:=lo) (hi:=hi) (by omega))
     go_wp2
     go_ret
     exact⟨aQ HE.out.symm,rfl⟩
    ·go_wp2
     go_round
     case rel=>exact⟨k+1,by omega,by go_num,MX hF.out HZ.out ⟨h1,h2⟩⟩
     case measure=>simp[intOf];omega
  ·have HE:Hid (ic lo hi zs=true):=by
    have:=hF.out
    rw[List.take_of_length_le (by rw[HN.out];omega)] at this
    exact this
   go_wp2
   go_ret
   exact⟨aQ HE.out.symm,rfl⟩
end Go.Proofs.YtceaodnohnekkaaGreatDoor
namespace Go.Proofs.YtceaodnohnekkaaGreatDoor.Ex
open Go.RowKit
def gJ (w:World):Prop:=∀g l,au g bC=some l→∀(j:Nat) (v:Value),l[j]? =some v→w.cell? ⟨g,j,none⟩=some v
theorem gJ.after {w w':World}(h:gJ w)(hb:Below w.heap.size w w'):gJ w':=fun g l hg j v hj=>by
 have hc:=h g l hg j v hj
 have hlt:=lt_of_cell hc
 rw[World.cell?_of_block (w:=w) (hb.block _ hlt)]
 exact hc
theorem Ae {w:World}(h:gJ w)(ρ:Env):aO w ρ ⟨0,[],[],bC⟩ w:=⟨zo _ _,fun b k hb=>(by cases hb),fun b b' k k' hb=>(by cases hb),fun b k hb=>(by cases hb),List.nodup_nil,h⟩
def iy:Env:=⟨fun _=>0,fun _=>0,fun _=>(⟨0,0,none⟩,0)⟩
theorem Post.ib {w0:World}{ρ ρ':Env}{W W':AW}{w w':World}(h:Post w0 ρ W w ρ' W' w')(hm:W'.az=[]):Below w.heap.size w w':=
 h.gr.below (zu _) fun i ⟨b,hb,_⟩=>by rw[hm] at hb;cases hb
def eX (B:Nat)(w:World)(A:Option Addr)(c:Nat)(vs:List Value):Prop:=
 (vs=[]∧A=none∧c=0)∨(vs≠[]∧∃q n cur,A=some ⟨q,0,none⟩∧B≤q∧w.heap[q]? =some (.cells cur 65 (0,0))∧n≤c∧c≤maxLen∧cur.size=c * 3∧vs.length=n * 3∧cur.toList.take (n * 3)=vs)
theorem lt_of_heap {w:World}{q:Nat}{b:Obj}(h:w.heap[q]? =some b):q < w.heap.size:=(Array.getElem?_eq_some_iff.1 h).1
theorem eX.after {B:Nat}{w w':World}{A:Option Addr}{c:Nat}{vs:List Value}(h:eX B w A c vs)(hb:Below w.heap.size w w'):eX B w' A c vs:=by
 rcases h with h | ⟨h0,q,n,cur,rfl,hB,hh,h'⟩
 ·exact .inl h
 ·exact .inr ⟨h0,q,n,cur,rfl,hB,(hb.block q (lt_of_heap hh)).trans hh,h'⟩
theorem eX.mono {B B':Nat}{w:World}{A:Option Addr}{c:Nat}{vs:List Value}(h:eX B w A c vs)(hB:B'≤B):eX B' w A c vs:=by
 rcases h with h | ⟨h0,q,n,cur,rfl,hB',h'⟩
 ·exact .inl h
 ·exact .inr ⟨h0,q,n,cur,rfl,by omega,h'⟩
theorem eX.rd {B:Nat}{w:World}{A:Option Addr}{c:Nat}{vs:List Value}(h:eX B w A c vs):Rd w (fun _=>True) A vs:=by
 rcases h with⟨rfl,_⟩ | ⟨_,q,n,cur,rfl,_,hh,_,_,_,hl,ht⟩
 ·exact Rd.nil _ _ _
 ·refine fun _=>⟨_,rfl,trivial,fun j u hu=>?_⟩
  have e:(⟨q,0,none⟩:Addr).add j=⟨q,j,none⟩:=by
   unfold Addr.add;split
   ·rename_i h;subst h;rfl
   ·simp
  rw[e]
  simp only[World.cell?,hh]
  have hj:j < vs.length:=(List.getElem?_eq_some_iff.1 hu).1
  rw[← ht,List.getElem?_take,if_pos (by omega)] at hu
  simpa using hu
def lQ (d:aJ):List Value:=d.2.2.2.2.map fun (n:Nat)=>Value.int .i64 (n:Int)
def Xe (p o:Nat)(d:aJ)(A:Option Addr)(c:Nat):Value:=.agg #[.int .i64 (p:Int),.int .u8 (o:Int),.string (aa d.2.1),.slice A (d.2.2.2.2.length / 3) c,.string (aa d.2.2.1),.bool d.2.2.2.1]
theorem Dl (ρ:Env):∀l:List Nat,aG ρ (opC l)=l.map fun (n:Nat)=>Value.int .i64 (n:Int)
 |[]=>rfl
 |n::l=>by
  show cv ρ (.int .i64 (.ofNat n))::aG ρ (opC l)=_
  rw[Dl ρ l]
  rfl
theorem afz {call:ag}(hC:ah Tryz.prog call){g p o:Nat}{d:aJ}{x:Nat×Nat}(h:dG call bC g (opE p o d x)=true)(hk:d.1=1)(w:World)(hG:gJ w):
 Calls Tryz.prog g #[.int .i64 (p:Int),.int .u8 (o:Int)] w fun e w'=>∃A c,e= .returned (.tuple #[Xe p o d A c,.int .i64 1])∧eX w.heap.size w' A c (lQ d)∧Below w.heap.size w w':=by
 obtain⟨_,hr⟩:=kZ h
 obtain⟨_,_,q3⟩:=hC _ _ _ _ _ hr
 have hc:=q3 w iy w ⟨trivial,trivial,trivial⟩ (Ae hG _)
 refine Calls.mono (show Calls Tryz.prog g #[.int .i64 (p:Int),.int .u8 (o:Int)] w _ from hc) ?_
 rintro e w' ⟨ρ',rfl,hP,_⟩
 have hb:=hP.ib rfl
 obtain⟨k,nm,ex,al,cs⟩:=d
 obtain rfl:k=1:=hk
 cases cs with
 |nil=>exact⟨none,0,by simp only[Xe,List.length_nil,Nat.zero_div];rfl,.inl ⟨rfl,rfl,rfl⟩,hb⟩
 |cons a t=>
  have hrep:=hP.rep.rep x.2 (.cells (opC (a::t)) 65 (some 3)) (aC _ _ _)
  have hok:=hP.rep.ok x.2 (.cells (opC (a::t)) 65 (some 3)) (aC _ _ _)
  obtain⟨n,cur,h1,h2,h3,h4,h5,h6⟩:=hrep
  refine⟨some ⟨ρ'.blk x.2,0,none⟩,ρ'.cap x.2 - 0,rfl,.inr ⟨by simp[lQ],ρ'.blk x.2,n,cur,rfl,hok.2.2.1,h1,h2,h3,h4,?_,?_⟩,hb⟩
  ·rw[← h5];simp[lQ,opC]
  ·rw[h6,Dl];rfl
theorem S9 {call:ag}(hC:ah Tryz.prog call){g p o:Nat}{d:aJ}{x:Nat×Nat}(h:dG call bC g (opE p o d x)=true)(w:World)(hG:gJ w):
 Calls Tryz.prog g #[.int .i64 (p:Int),.int .u8 (o:Int)] w fun e w'=>∃(p' o':Int) (nm ex:ByteArray) (al:Bool) (A:Option Addr) (n c:Nat),e= .returned (.tuple #[.agg #[.int .i64 p',.int .u8 o',.string nm,.slice A n c,.string ex,.bool al],.int .i64 (d.1:Int)])∧Below w.heap.size w w':=by
 obtain⟨_,hr⟩:=kZ h
 obtain⟨_,_,q3⟩:=hC _ _ _ _ _ hr
 have hc:=q3 w iy w ⟨trivial,trivial,trivial⟩ (Ae hG _)
 refine Calls.mono (show Calls Tryz.prog g #[.int .i64 (p:Int),.int .u8 (o:Int)] w _ from hc) ?_
 rintro e w' ⟨ρ',rfl,hP,_⟩
 have hb:=hP.ib rfl
 obtain⟨k,nm,ex,al,cs⟩:=d
 have hs:∃A n c,cv ρ' (opS x.2 cs)= .slice A n c:=by
  cases cs with
  |nil=>exact⟨_,_,_,rfl⟩
  |cons a t=>exact⟨_,_,_,rfl⟩
 obtain⟨A,n,c,hs⟩:=hs
 have hg:∃(p' o':Int) (uS ex':ByteArray) (al':Bool),cv ρ' (opG p o (k,nm,ex,al,cs) (opS x.2 cs))= .agg #[.int .i64 p',.int .u8 o',.string uS,.slice A n c,.string ex',.bool al']:=by
  unfold opG
  split
  ·exact⟨_,_,_,_,_,by simp only[cv,aG,hs];rfl⟩
  ·exact⟨_,_,_,_,_,by simp only[cv,aG,hs];rfl⟩
 obtain⟨p',o',uS,ex',al',hg⟩:=hg
 refine⟨p',o',uS,ex',al',A,n,c,?_,hb⟩
 show Ending.returned (.tuple #[cv ρ' (opG p o (k,nm,ex,al,cs) (opS x.2 cs)),_])=_
 rw[hg]
 rfl
theorem XX {call:ag}(hC:ah Tryz.prog call){g p o:Nat}{d:aJ}{x:Nat×Nat}(h:dG call bC g (Un p o d x)=true)(hk:d.1=1)(w:World)(hG:gJ w):
 Calls Tryz.prog g #[.int .i64 (p:Int),.int .u8 (o:Int)] w fun e w'=>∃A c,e= .returned (.tuple #[Xe p o d A c,.int .i64 1])∧Rd w' (fun _=>True) A (lQ d)∧Below w.heap.size w w':=by
 obtain⟨_,hr⟩:=kZ h
 obtain⟨_,_,q3⟩:=hC _ _ _ _ _ hr
 have hc:=q3 w iy w ⟨trivial,trivial,trivial⟩ (Ae hG _)
 refine Calls.mono (show Calls Tryz.prog g #[.int .i64 (p:Int),.int .u8 (o:Int)] w _ from hc) ?_
 rintro e w' ⟨ρ',rfl,hP,_⟩
 have hb:=hP.ib rfl
 obtain⟨k,nm,ex,al,cs⟩:=d
 obtain rfl:k=1:=hk
 have addr:∀(q j:Nat),(⟨q,0,none⟩:Addr).add j=⟨q,j,none⟩:=fun q j=>by
  unfold Addr.add;split
  ·rename_i h;subst h;rfl
  ·simp
 cases cs with
 |nil=>exact⟨none,0,by simp only[Xe,List.length_nil,Nat.zero_div];rfl,Rd.nil _ _ _,hb⟩
 |cons a t=>
  cases hx:Nat.ble 1000 x.2 with
  |true=>
   have hS:FC x.2 (a::t)= .slice (Nat.sub x.2 1000) 0 0 (Nat.div (a::t).length 3) (some (Nat.div (a::t).length 3)):=by
    show cond (Nat.ble 1000 x.2) _ _=_
    rw[hx];rfl
   have hB:Zd x.2 (a::t)=[(Nat.sub x.2 1000,.cells (opC (a::t)) 65 none)]:=by
    show cond (Nat.ble 1000 x.2) _ _=_
    rw[hx];rfl
   have hrep:=hP.rep.rep (Nat.sub x.2 1000) (.cells (opC (a::t)) 65 none) (by
    show au _ (Zd x.2 (a::t))=_
    rw[hB];exact aC _ _ _)
   refine⟨some ⟨ρ'.blk (Nat.sub x.2 1000),0,none⟩,Nat.div (a::t).length 3,?_,fun _=>⟨_,rfl,trivial,fun j u hu=>?_⟩,hb⟩
   ·show Ending.returned (.tuple #[.agg #[_,_,_,cv ρ' (FC x.2 (a::t)),_,_],_])=_
    rw[hS];rfl
   ·rw[addr]
    have hrep:w'.heap[ρ'.blk (Nat.sub x.2 1000)]? =some (.cells (aG ρ' (opC (a::t))).toArray 65 (0,0)):=hrep
    simp only[World.cell?,hrep]
    rw[Dl]
    simpa [lQ] using hu
  |false=>
   have hS:FC x.2 (a::t)= .slice x.2 0 0 (Nat.div (a::t).length 3) none:=by
    show cond (Nat.ble 1000 x.2) _ _=_
    rw[hx];rfl
   have hB:Zd x.2 (a::t)=[(x.2,.cells (opC (a::t)) 65 (some 3))]:=by
    show cond (Nat.ble 1000 x.2) _ _=_
    rw[hx];rfl
   have hrep:=hP.rep.rep x.2 (.cells (opC (a::t)) 65 (some 3)) (by
    show au _ (Zd x.2 (a::t))=_
    rw[hB];exact aC _ _ _)
   obtain⟨n,cur,h1,h2,h3,h4,h5,h6⟩:=hrep
   refine⟨some ⟨ρ'.blk x.2,0,none⟩,ρ'.cap x.2 - 0,?_,fun _=>⟨_,rfl,trivial,fun j u hu=>?_⟩,hb⟩
   ·show Ending.returned (.tuple #[.agg #[_,_,_,cv ρ' (FC x.2 (a::t)),_,_],_])=_
    rw[hS];rfl
   ·rw[addr]
    simp only[World.cell?,h1]
    rw[Dl] at h6
    have hj:j < (lQ (1,nm,ex,al,a::t)).length:=(List.getElem?_eq_some_iff.1 hu).1
    have hl:(lQ (1,nm,ex,al,a::t)).length=n * 3:=by
     rw[← h5];simp[lQ,opC]
    have hu':(lQ (1,nm,ex,al,a::t))[j]? =some u:=hu
    rw[show lQ (1,nm,ex,al,a::t)=cur.toList.take (n * 3) from h6.symm,List.getElem?_take,if_pos (by omega)] at hu'
    simpa using hu'
def Jk:List AV→Option (List Int)
 |[]=>some []
 | .sym _ z::r=>(Jk r).map (z:: ·)
 | .int .i64 z::r=>(Jk r).map (z:: ·)
 |_::_=>none
theorem pW {ρ:Env}:∀{vs:List AV} {zs:List Int},Jk vs=some zs→aG ρ vs=ils zs∧zs.length=vs.length
 |[],zs,h=>by
  obtain rfl:=zx h
  exact⟨rfl,rfl⟩
 |v::r,zs,h=>by
  unfold Jk at h
  split at h
  ·rename_i e;cases e
  ·rename_i z r' e
   obtain⟨rfl,rfl⟩:=List.cons.inj e
   obtain⟨m,hm,rfl⟩:=Option.map_eq_some_iff.1 h
   obtain⟨h1,h2⟩:=pW (ρ:=ρ) hm
   exact⟨by simp only[aG,cv,ils,List.map_cons] at h1 ⊢;rw[h1],by simp[h2]⟩
  ·rename_i z r' e
   obtain⟨rfl,rfl⟩:=List.cons.inj e
   obtain⟨m,hm,rfl⟩:=Option.map_eq_some_iff.1 h
   obtain⟨h1,h2⟩:=pW (ρ:=ρ) hm
   exact⟨by simp only[aG,cv,ils,List.map_cons] at h1 ⊢;rw[h1],by simp[h2]⟩
  ·cases h
def I9:List Int→List AV
 |[]=>[]
 |z::r=>.int .u8 (z % 256)::I9 r
theorem Bv (ρ:Env):∀zs:List Int,aG ρ (I9 zs)=bs (zs.map pU)∧(I9 zs).length=zs.length
 |[]=>⟨rfl,rfl⟩
 |z::r=>by
  obtain⟨h1,h2⟩:=Bv ρ r
  refine⟨?_,by simp[I9,h2]⟩
  rw[I9,aG,h1,cv,← xy z]
  rfl
theorem RH (n:Nat):∀zs:List Int,oks n (I9 zs)
 |[]=>trivial
 |_::r=>⟨trivial,RH n r⟩
def am4:ag:=fun g args W=>cond (Nat.beq g 145) (match args with
 |[x]=>match kI W.bl 1 x with
  |some (m,vs)=>match Jk vs with
   |some zs=>cond (Nat.blt 0 m) (cond (Nat.ble m 140737488355328) (some (.slice W.nx 0 0 m none,W.push (.cells (I9 zs) 5 (some 1)))) none) none
   |none=>none
  |none=>none
 |_=>none) none
theorem agH:ah Tryz.prog am4:=fun g args W v W' h=>by
 unfold am4 at h
 cases hg:Nat.beq g 145 with
 |false=>rw[hg] at h;cases h
 |true=>
 rw[hg] at h
 obtain rfl:=(beq_iff _ _).1 hg
 simp only[cond_true] at h
 split at h
 case h_2=>cases h
 case h_1 x=>
 split at h
 case h_2=>cases h
 case h_1 m vs hx=>
 split at h
 case h_2=>cases h
 case h_1 zs hzs=>
 cases h1:Nat.blt 0 m with
 |false=>rw[h1] at h;cases h
 |true=>
 cases h2:Nat.ble m 140737488355328 with
 |false=>rw[h1,h2] at h;cases h
 |true=>
 rw[h1,h2] at h
 simp only[cond_true] at h
 have h1:=aT h1
 have h2:=Nat.le_of_ble_eq_true h2
 obtain⟨rfl,rfl⟩:=zw (zx h)
 refine⟨⟨_,Tryz.func145,by decide,by kernel_rfl⟩,fun _ hb=>hb,fun w0 ρ w _ hW=>?_⟩
 obtain⟨A,c,hxv,hlen,hrd,hno⟩:=jA (fun b k hb=>⟨(hW.ok b k hb).2.1,hW.rep b k hb⟩) hx
 obtain⟨hzv,hzl⟩:=pW (ρ:=ρ) hzs
 have hm:zs.length=m:=by rw[hzl,hlen];omega
 rw[hzv] at hrd
 have hc:=agG A zs c w (fun _=>True) (by omega) hrd
 rw[hm] at hc
 have ea:(aG ρ [x]).toArray=#[.slice A m c]:=by simp only[aG,hxv]
 rw[ea]
 refine hc.mono ?_
 rintro e' w' ⟨v,rfl,hown,hb⟩
 obtain⟨g,cap,cur,rfl,r1,r2,r3,r4,r5,r6⟩:=qD hown h1
 have hgw:w.heap.size≤g:=by
  rcases hown.2 with⟨_,h0⟩ | ⟨g',cap',cur',e1,e2,_⟩
  ·omega
  ·injection e1 with e1 _ _
   injection e1 with e1
   injection e1 with e1 _ _
   rw[e1];exact e2
 obtain⟨hl1,hl2⟩:=Bv (ρ.up W.nx g cap) zs
 refine⟨ρ.up W.nx g cap,?_,hW.new (g:=g) (c:=cap) (k:=.cells (I9 zs) 5 (some 1)) ⟨hb.os,hb.tape,hb.output,hb.size,fun i hi _=>hb.block i hi⟩ hgw r1 (RH _ zs) ?_,Nat.lt_succ_self _⟩
 ·simp only[cv,Env.aP,Env.bX,Nat.sub_zero]
 ·refine⟨m,cur,?_,?_,?_,?_,by rw[hl2,hm,Nat.mul_one],?_⟩
  ·rw[Env.aP];exact r2
  ·rw[Env.bX];exact r3
  ·rw[Env.bX];exact r4
  ·rw[Env.bX];exact r5
  ·rw[hl1]
   exact r6
def Cv (lo hi:Int)(f:Int×Int×Bool)(q:Option Bool):Option Bool:=
 cond f.2.2 (cond (cZ f.2.1 lo) (some false) (cond (cZ hi f.1) (some false) (cond (cZ f.1 lo) q (cond (cZ hi f.2.1) q (some true))))) q
theorem Aq {lo hi x:Int}{f:Int×Int×Bool}{l:List (Int×Int×Bool)}{q:Option Bool}{r:Bool}(h:Cv lo hi f q=some r)(hk:iZ (f::l) x)(hq:q=some r→ic lo hi [x]=r):ic lo hi [x]=r:=by
 have ne:∀{a b:Int},cZ a b=false→¬a < b:=fun h e=>by rw[bZ.2 e] at h;cases h
 unfold Cv at h
 cases hf:f.2.2 with
 |false=>rw[hf] at h;exact hq h
 |true=>
  have hx:=Ov hk hf
  rw[hf] at h
  simp only[cond_true] at h
  cases h1:cZ f.2.1 lo with
  |true=>
   rw[h1] at h
   obtain rfl:=zx h
   have:=bZ.1 h1
   simp[ic];omega
  |false=>
  rw[h1] at h
  cases h2:cZ hi f.1 with
  |true=>
   rw[h2] at h
   obtain rfl:=zx h
   have:=bZ.1 h2
   simp[ic];omega
  |false=>
  rw[h2] at h
  cases h3:cZ f.1 lo with
  |true=>rw[h3] at h;exact hq h
  |false=>
  rw[h3] at h
  cases h4:cZ hi f.2.1 with
  |true=>rw[h4] at h;exact hq h
  |false=>
   rw[h4] at h
   obtain rfl:=zx h
   have n3:=ne h3
   have n4:=ne h4
   simp[ic];omega
def Fa (lo hi:Int):List (Int×Int×Bool)→Option Bool
 |[]=>none
 |f::l=>cond (uZ lo f.1) (cond (uZ hi f.2.1) (some f.2.2) (Cv lo hi f (Fa lo hi l))) (Cv lo hi f (Fa lo hi l))
theorem wE {lo hi x:Int}:∀{fs:List (Int×Int×Bool)} {r:Bool},Fa lo hi fs=some r→iZ fs x→ic lo hi [x]=r
 |[],_,h,_=>by cases h
 |f::l,r,h,hk=>by
  have hl:iZ l x:=fun g hg=>hk g (zm _ hg)
  unfold Fa at h
  cases h1:uZ lo f.1 with
  |false=>rw[h1] at h;exact Aq h hk fun hq=>wE hq hl
  |true=>
   cases h2:uZ hi f.2.1 with
   |false=>rw[h1,h2] at h;exact Aq h hk fun hq=>wE hq hl
   |true=>
    rw[h1,h2] at h
    obtain rfl:=zx h
    have:=hk _ zn
    rw[← this,jd h1,jd h2]
    simp[ic]
def acf:ag:=fun g args W=>cond (Nat.beq g 188) (match args with
 |[.int .i64 lo,.int .i64 hi,x]=>match kI W.bl 1 x with
  |some (m,[.sym fs _z])=>cond (Nat.beq m 1) ((Fa lo hi fs).map fun r=>(.bool r,W)) none
  |_=>none
 |_=>none) none
theorem ace:ah Tryz.prog acf:=fun g args W v W' h=>by
 unfold acf at h
 cases hg:Nat.beq g 188 with
 |false=>rw[hg] at h;cases h
 |true=>
 rw[hg] at h
 obtain rfl:=(beq_iff _ _).1 hg
 simp only[cond_true] at h
 split at h
 case h_2=>cases h
 case h_1 lo hi x=>
 split at h
 case h_2=>cases h
 case h_1 m fs z hx=>
 cases h1:Nat.beq m 1 with
 |false=>rw[h1] at h;cases h
 |true=>
 rw[h1] at h
 obtain rfl:=(beq_iff _ _).1 h1
 obtain⟨r,hr,h2⟩:=Option.map_eq_some_iff.1 h
 obtain⟨rfl,rfl⟩:=zw h2
 refine⟨⟨_,Tryz.func188,by decide,by kernel_rfl⟩,fun _ hb=>hb,fun w0 ρ w _ hW=>?_⟩
 obtain⟨A,c,hxv,hlen,hrd,hno⟩:=jA (fun b k hb=>⟨(hW.ok b k hb).2.1,hW.rep b k hb⟩) hx
 have hc:=Bj lo hi A [z] c w (fun _=>True) (by simp) hrd
 have ea:(aG ρ [.int .i64 lo,.int .i64 hi,x]).toArray=#[.int .i64 lo,.int .i64 hi,.slice A 1 c]:=by simp only[aG,cv,hxv]
 rw[ea]
 refine hc.mono ?_
 rintro e' w' ⟨rfl,rfl⟩
 exact⟨ρ,by rw[wE hr hno.1];rfl,Post.refl hW,trivial⟩
def aub (S:ag):ag:=uR am4 (uR acf S)
theorem ahI {S:ag}(h:ah Tryz.prog S):ah Tryz.prog (aub S):=dR agH (dR ace h)
def EN:ag:=aub S1
theorem mg:ah Tryz.prog EN:=ahI zb
def uP:List AV→AV
 |[]=>.aX
 |cs=>.slice 0 0 0 (Nat.div cs.length 3) none
def Ew:List AV→AW
 |[]=>⟨1,[],[],bC⟩
 |cs=>⟨1,[(0,.cells cs 65 (some 3))],[],bC⟩
def rI (z:Int):AV:=.raw (.int .i64 z)
def lh:Nat→List Nat→(Nat→Int)→(Nat→Int)→List AV
 |_,[],_,_=>[]
 |i,k::l,rs,ns=>.int .i64 (.ofNat k)::rI (rs i)::rI (ns i)::lh (i+1) l rs ns
noncomputable def ac6 (pg:Nat)(s:List Nat)(cs:List AV)(x:List Nat)(al o:Value)(fd fn:List (Int×Int×Bool))(d n:Int):Option (AV×AW):=
 aj EN 17 [.agg [.int .i64 (.ofNat pg),.raw o,.str s,uP cs,.str x,.raw al],.sym fd d,.sym fn n] (Ew cs)
def UA:Option (AV×AW)→Option (List AV×Bool)
 |some (.tuple [sl,.bool r],W)=>match W.az with
  |[]=>match sl with
   | .aX=>some ([],r)
   | .slice b 0 0 m none=>match au b W.bl with
     |some (.cells vs _ (some 1))=>cond (Nat.beq m vs.length) (some (vs,r)) none
     |_=>none
   |_=>none
  |_=>none
 |_=>none
def gM (c:Nat):List Nat→Bool
 |[]=>false
 |x::l=>cond (Nat.beq c x) true (gM c l)
def wO (ex:List Nat):Int×Int:=cond (gM 100 ex) (.negSucc 127,.ofNat 127) (.ofNat 0,.ofNat 0)
def wN (ex:List Nat):Int×Int:=cond (gM 101 ex) (.negSucc 127,.ofNat 127) (cond (gM 110 ex) (.ofNat 0,.ofNat 255) (cond (gM 119 ex) (.ofNat 0,.ofNat 65535) (.ofNat 0,.ofNat 0)))
def sj (r:Int×Int)(b:Bool):List (Int×Int×Bool):=[(r.1,r.2,b)]
def Ja (z:Int):AV:=.int .u8 (z % 256)
def uX (d n:Int):List Nat→List AV
 |[]=>[]
 |c::l=>cond (Nat.beq c 100) (Ja d::uX d n l) (cond (Nat.beq c 119) (Ja n::Ja (n.fdiv 256)::uX d n l) (Ja n::uX d n l))
def bL:Nat→List Nat
 |1=>[203]
 |2=>[237]
 |3=>[221]
 |4=>[253]
 |5=>[221,203]
 |6=>[253,203]
 |_=>[]
def SS:List Nat→List AV
 |[]=>[]
 |c::l=>.int .u8 (.ofNat c)::SS l
def ahp:List AV→List AV→List AV
 |[],m=>m
 |x::l,m=>x::ahp l m
def D5 (p:Nat)(o:Value)(ex:List Nat)(d n:Int):List AV:=ahp (SS (bL p)) (cond (Nat.ble 5 p) (Ja d:: .raw o::uX d n ex.tail) (.raw o::uX d n ex))
def ae (p:Nat)(nm ks ex:List Nat):Prop:=∀(al:Bool) (o:Int) (rs ns:Nat→Int) (d n:Int),
 UA (ac6 p nm (lh 0 ks rs ns) ex (.bool al) (.int .u8 o) (sj (wO ex) true) (sj (wN ex) true) d n)=some (D5 p (.int .u8 o) ex d n,true)∧
 UA (ac6 p nm (lh 0 ks rs ns) ex (.bool al) (.int .u8 o) (sj (wO ex) true) (sj (wN ex) false) d n)=some ([],false)∧
 UA (ac6 p nm (lh 0 ks rs ns) ex (.bool al) (.int .u8 o) (sj (wO ex) false) (sj (wN ex) true) d n)=some ([],false)∧
 UA (ac6 p nm (lh 0 ks rs ns) ex (.bool al) (.int .u8 o) (sj (wO ex) false) (sj (wN ex) false) d n)=some ([],false)
end Go.Proofs.YtceaodnohnekkaaGreatDoor.Ex
namespace Go.Proofs.YtceaodnohnekkaaGreatDoor
open Go.RowKit
abbrev ay:=Int×Int×Int
def o3v (o:ay):List Value:=[.int .i64 o.1,.int .i64 o.2.1,.int .i64 o.2.2]
def bE (l:List ay):List Value:=l.flatMap o3v
theorem iN (o:ay)(l:List ay):bE (o::l)= .int .i64 o.1:: .int .i64 o.2.1:: .int .i64 o.2.2::bE l:=rfl
theorem gZ:∀l:List ay,(bE l).length=l.length * 3
 |[]=>rfl
 |o::l=>by rw[iN];simp only[List.length_cons,gZ l];omega
theorem wY:∀(k:Nat) (l:List ay),(bE l).drop (k * 3)=bE (l.drop k)
 |0,l=>by simp
 |k+1,[]=>by simp[bE]
 |k+1,o::l=>by
  rw[iN,show (k+1) * 3=k * 3+1+1+1 by omega]
  simp only[List.drop_succ_cons]
  exact wY k l
theorem Rd.o3 {w:World}{p:Nat→Prop}{A:Option Addr}{l:List ay}(h:Rd w p A (bE l)){k:Nat}{o:ay}(hk:l[k]? =some o):
 ∃b off,A=some ⟨b,off,none⟩∧p b∧w.cell? ⟨b,off+k * 3,none⟩=some (.int .i64 o.1)∧w.cell? ⟨b,off+k * 3+1,none⟩=some (.int .i64 o.2.1)∧w.cell? ⟨b,off+k * 3+2,none⟩=some (.int .i64 o.2.2):=by
 have hlt:k < l.length:=(List.getElem?_eq_some_iff.1 hk).1
 have hd:(bE l).drop (k * 3)=o3v o++bE (l.drop (k+1)):=by
  rw[wY,List.drop_eq_getElem_cons hlt,(List.getElem_eq_iff hlt).2 hk]
  rfl
 have hne:bE l≠[]:=fun e=>by rw[e] at hd;simp[o3v] at hd
 obtain⟨b,off,hA,hp,hc⟩:=h.ex hne
 have key:∀j u,(o3v o)[j]? =some u→w.cell? ⟨b,off+k * 3+j,none⟩=some u:=fun j u hj=>by
  have:(bE l)[k * 3+j]? =some u:=by
   rw[← List.getElem?_drop,hd,List.getElem?_append_left (List.getElem?_eq_some_iff.1 hj).1]
   exact hj
  rw[Nat.add_assoc]
  exact hc _ _ this
 exact⟨b,off,hA,hp,key 0 _ rfl,key 1 _ rfl,key 2 _ rfl⟩
theorem agn (A A':Option Addr)(n n' c c':Nat)(w:World)(hn:n≠n'):
 Calls Tryz.prog 28 #[.slice A n c,.slice A' n' c'] w fun e w'=>e= .returned (.bool false)∧w=w':=by
 have h:(((n:Nat):Int) != (n':Int))=true:=by simp;omega
 clear hn
 go_enter Tryz.func28,Tryz.ntmps28
 go_wp2
 go_ret
 exact⟨rfl,rfl⟩
theorem ym {α:Type}{l l':List α}(hl:l.length=l'.length){k:Nat}(h:∀j,j < k→l[j]? =l'[j]?)(hk:l.length≤k):l=l':=by
 apply List.ext_getElem?
 intro j
 by_cases hj:j < k
 ·exact h j hj
 ·rw[List.getElem?_eq_none (by omega),List.getElem?_eq_none (by omega)]
set_option maxHeartbeats 4000000 in
theorem ZR (A A':Option Addr)(l l':List ay)(c c':Nat)(w:World)(p p':Nat→Prop)(hl:l.length=l'.length)(hm:(l.length:Int)≤140737488355328)
 (h:Rd w p A (bE l)) (h':Rd w p' A' (bE l')):
 Calls Tryz.prog 28 #[.slice A l.length c,.slice A' l.length c'] w fun e w'=>e= .returned (.bool (decide (l=l')))∧∃m,w'=w.drewN m:=by
 obtain⟨n,hn⟩:∃n,l.length=n:=⟨_,rfl⟩
 have Hn:=zz hn
 have Hl:=zz hl
 rw[hn] at hm
 rw[hn]
 clear hn hl
 have h0:(((n:Nat):Int) != (n:Int))=false:=by simp
 go_enter Tryz.func28,Tryz.ntmps28
 go_wp2
 go_loopw [5,13] (fun _ v wr=>∃k:Nat,k≤n∧v= .int .i64 k∧Hid (∀j,j < k→l[j]? =l'[j]?)∧∃m,wr=w.drewN m) (fun _ v _=>n - (intOf v).toNat)
 case atStart=>exact⟨0,Nat.zero_le _,rfl,fun j hj=>absurd hj (Nat.not_lt_zero _),0,rfl⟩
 case round=>
  obtain⟨k,hk,rfl,hr,m,rfl⟩:=hrel
  by_cases hlt:k < n
  ·have hk1:k < l.length:=by rw[Hn.out];exact hlt
   have hk2:k < l'.length:=by rw[← Hl.out];exact hk1
   have e1:=List.getElem?_eq_getElem hk1
   have e2:=List.getElem?_eq_getElem hk2
   obtain⟨x,hx⟩:∃x,l[k]=x:=⟨_,rfl⟩
   obtain⟨y,hy⟩:∃y,l'[k]=y:=⟨_,rfl⟩
   rw[hx] at e1
   rw[hy] at e2
   obtain⟨b,o,rfl,_,c0,c1,c2⟩:=h.o3 e1
   obtain⟨b',o',rfl,_,d0,d1,d2⟩:=h'.o3 e2
   clear h h' hx hy
   obtain⟨x0,x1,x2⟩:=x
   obtain⟨y0,y1,y2⟩:=y
   have E1:=zz e1
   have E2:=zz e2
   clear e1 e2
   by_cases he:(x0,x1,x2)=(y0,y1,y2)
   ·obtain⟨rfl,rfl,rfl⟩:x0=y0∧x1=y1∧x2=y2:=by simpa using he
    have f0:(x0 == x0)=true:=beq_self_eq_true _
    have f1:(x1 == x1)=true:=beq_self_eq_true _
    have f2:(x2 == x2)=true:=beq_self_eq_true _
    have hr2:Hid (∀j,j < k+1→l[j]? =l'[j]?):=fun j hj=>by
     by_cases hjk:j=k
     ·subst hjk;rw[E1.out,E2.out]
     ·exact hr.out j (by omega)
    clear hr he
    go_wp2
    go_region
    all_goals go_wp2
    all_goals go_roundw
    case rel=>exact⟨k+1,by omega,by go_num,hr2,_,rfl⟩
    case measure=>simp[intOf];omega
   ·have hd:Hid (decide (l=l')=false):=by
     simp only[Hid,decide_eq_false_iff_not]
     intro e
     subst e
     exact he (zx (E1.out.symm.trans E2.out))
    have F:((x0 == y0)=false)∨((x0 == y0)=true∧(x1 == y1)=false)∨((x0 == y0)=true∧(x1 == y1)=true∧(x2 == y2)=false):=by
     cases h1:(x0 == y0)
     ·exact .inl rfl
     ·cases h2:(x1 == y1)
      ·exact .inr (.inl ⟨rfl,rfl⟩)
      ·cases h3:(x2 == y2)
       ·exact .inr (.inr ⟨rfl,rfl,rfl⟩)
       ·exact (he (by simp at h1 h2 h3;simp[h1,h2,h3])).elim
    clear hr he
    rcases F with f0 | ⟨f0,f1⟩ | ⟨f0,f1,f2⟩
    all_goals
     go_wp2
     go_region
     all_goals go_wp2
     all_goals go_ret
     all_goals exact⟨aQ hd.out.symm,_,rfl⟩
  ·go_wp2
   go_ret
   exact⟨aQ (by rw[ym Hl.out hr.out (by rw[Hn.out];omega)];simp),_,rfl⟩
theorem OP (A A':Option Addr)(l l':List ay)(n n' c c':Nat)(w:World)(p p':Nat→Prop)(hn:l.length=n)(hn':l'.length=n')(hm:(n:Int)≤140737488355328)(h:Rd w p A (bE l))(h':Rd w p' A' (bE l')):
 Calls Tryz.prog 28 #[.slice A n c,.slice A' n' c'] w fun e w'=>e= .returned (.bool (decide (l=l')))∧Below w.heap.size w w':=by
 subst hn;subst hn'
 by_cases hl:l.length=l'.length
 ·rw[← hl]
  refine (ZR A A' l l' c c' w p p' hl hm h h').mono fun e w' ⟨h1,m,h2⟩=>⟨h1,by rw[h2];exact aU _ _ _⟩
 ·refine (agn A A' _ _ c c' w hl).mono fun e w' ⟨he,hw⟩=>⟨?_,by rw[← hw];exact zo _ _⟩
  rw[he]
  refine aQ ?_
  symm
  rw[decide_eq_false_iff_not]
  intro e
  exact hl (by rw[e])
end Go.Proofs.YtceaodnohnekkaaGreatDoor
namespace Go.Proofs.YtceaodnohnekkaaGreatDoor
def uB:Int→Option (List Int×Int×Int)
 |1=>some ([0,1,2,3,4,5,7],0,0)
 |2=>some ([0,1,2,3],0,0)
 |3=>some ([0,1,2,3,4,5,6,7],0,0)
 |4=>some ([0,1,2,3,5,6,8],0,0)
 |5=>some ([5,6],-128,127)
 |6=>some ([0],-32768,65535)
 |7=>some ([0],0,65535)
 |8=>some ([0,1,2,3,4,5,6,7],0,0)
 |9=>some ([0,1],0,0)
 |10=>some ([0],-128,127)
 |_=>none
def bz (o:ay):Bool:=match uB o.1 with
 |none=>false
 |some (rs,lo,hi)=>rs.contains o.2.1 && (decide (lo≤o.2.2) && decide (o.2.2≤hi))
def kv (w:Nat)(o:ay):ay:=
 let size:Int:=2 ^ (8 * w)
 if decide (o.1=6) && (decide (o.2.2 < 0) && (decide (-(size / 2)≤o.2.2) && decide (1 < size))) then (o.1,o.2.1,o.2.2+size) else o
end Go.Proofs.YtceaodnohnekkaaGreatDoor
namespace Go.Proofs.YtceaodnohnekkaaGreatDoor.Ex
open Go.RowKit
theorem rE {call:ag}(hC:ah Tryz.prog call){g:Nat}{args:List AV}{v:AV}{W':AW}(hr:call g args ⟨0,[],[],bC⟩=some (v,W'))(hm:W'.az=[])(hf:oks 0 args)(w:World)(hG:gJ w):
 Calls Tryz.prog g (aG iy args).toArray w fun e w'=>∃ρ,e= .returned (cv ρ v)∧(∀b k,au b W'.bl=some k→k.rep ρ w' b∧w.heap.size≤ρ.blk b)∧Below w.heap.size w w':=by
 obtain⟨_,_,q3⟩:=hC _ _ _ _ _ hr
 refine Calls.mono (q3 w iy w hf (Ae hG _)) ?_
 rintro e w' ⟨ρ',rfl,hP,_⟩
 exact⟨ρ',rfl,fun b k hb=>⟨hP.rep.rep b k hb,(hP.rep.ok b k hb).2.2.1⟩,hP.ib hm⟩
def yU:Option (AV×AW)→Option Bool
 |some (.bool b,W)=>match W.az with
  |[]=>some b
  |_=>none
 |_=>none
theorem oO {call:ag}(hC:ah Tryz.prog call){g:Nat}{args:List AV}{b:Bool}(hr:yU (call g args ⟨0,[],[],bC⟩)=some b)(hf:oks 0 args)(w:World)(hG:gJ w):
 Calls Tryz.prog g (aG iy args).toArray w fun e w'=>e= .returned (.bool b)∧Below w.heap.size w w':=by
 unfold yU at hr
 split at hr
 case h_2=>cases hr
 case h_1 b' W hq=>
 split at hr
 case h_2=>cases hr
 case h_1 hm=>
 obtain rfl:=zx hr
 refine (rE hC hq hm hf w hG).mono ?_
 rintro e w' ⟨ρ,rfl,_,hb⟩
 exact⟨rfl,hb⟩
def xD:Option (AV×AW)→Option Nat
 |some (.int .i64 (.ofNat b),W)=>match W.az with
  |[]=>some b
  |_=>none
 |_=>none
theorem acX {call:ag}(hC:ah Tryz.prog call){g:Nat}{args:List AV}{b:Nat}(hr:xD (call g args ⟨0,[],[],bC⟩)=some b)(hf:oks 0 args)(w:World)(hG:gJ w):
 Calls Tryz.prog g (aG iy args).toArray w fun e w'=>e= .returned (.int .i64 (b:Int))∧Below w.heap.size w w':=by
 unfold xD at hr
 split at hr
 case h_2=>cases hr
 case h_1 b' W hq=>
 split at hr
 case h_2=>cases hr
 case h_1 hm=>
 obtain rfl:=zx hr
 refine (rE hC hq hm hf w hG).mono ?_
 rintro e w' ⟨ρ,rfl,_,hb⟩
 exact⟨rfl,hb⟩
def bq (q:Option Bool)(b:Bool):Bool:=match q with
 |some true=>b
 |some false=>!b
 |none=>false
theorem aiS {q:Option Bool}{b:Bool}(h:bq q b=true):q=some b:=by
 unfold bq at h
 split at h
 ·rw[h]
 ·cases b
  ·rfl
  ·cases h
 ·cases h
def nq (q:Option Nat)(b:Nat):Bool:=match q with
 |some a=>Nat.beq a b
 |none=>false
theorem aiw {q:Option Nat}{b:Nat}(h:nq q b=true):q=some b:=by
 unfold nq at h
 split at h
 ·rw[(beq_iff _ _).1 h]
 ·cases h
def loI:Int:=.negSucc 9223372036854775807
def hiI:Int:=.ofNat 9223372036854775807
def afY (j:Nat)(r:Int):AV:=cond (Nat.blt j 9) (.int .i64 (.ofNat j)) (cond (Nat.beq j 9) (.sym [(.negSucc 9223372036854775807,.negSucc 0,true)] r) (.sym [(.ofNat 9,.ofNat 9223372036854775807,true)] r))
def C8:Nat→(Int×Int)×Int×Int
 |5=>((.negSucc 127,.ofNat 127),.negSucc 128,.ofNat 128)
 |6=>((.negSucc 32767,.ofNat 65535),.negSucc 32768,.ofNat 65536)
 |7=>((.ofNat 0,.ofNat 65535),.negSucc 0,.ofNat 65536)
 |10=>((.negSucc 127,.ofNat 127),.negSucc 128,.ofNat 128)
 |_=>((.ofNat 0,.ofNat 0),.negSucc 0,.ofNat 1)
def amP (k c:Nat)(n:Int):AV:=match c with
 |0=>.sym [(.negSucc 9223372036854775807,(C8 k).2.1,true)] n
 |1=>.sym [((C8 k).1.1,(C8 k).1.2,true)] n
 |_=>.sym [((C8 k).2.2,.ofNat 9223372036854775807,true)] n
def ng:Nat→List Nat
 |1=>[0,1,2,3,4,5,7]
 |2=>[0,1,2,3]
 |3=>[0,1,2,3,4,5,6,7]
 |4=>[0,1,2,3,5,6,8]
 |5=>[5,6]
 |8=>[0,1,2,3,4,5,6,7]
 |9=>[0,1]
 |_=>[0]
def M5 (j:Nat):List Nat→Bool
 |[]=>false
 |x::l=>cond (Nat.beq j x) true (M5 j l)
def okC (k j c:Nat):Bool:=cond (M5 j (ng k)) (Nat.beq c 1) false
def rH (f:Nat→Bool):List Nat→Bool
 |[]=>true
 |x::l=>cond (f x) (rH f l) false
theorem dZ {f:Nat→Bool}:∀{l:List Nat} {x:Nat},rH f l=true→x∈l→f x=true
 |[],_,_,h=>by cases h
 |y::l,x,h,hx=>by
  unfold rH at h
  cases hy:f y with
  |false=>rw[hy] at h;cases h
  |true=>
   rw[hy] at h
   rcases List.mem_cons.1 hx with rfl | hx
   ·exact hy
   ·exact dZ h hx
noncomputable def apS (S:ag)(g:Nat)(k j c:Nat)(r n:Int):Option Bool:=yU (aj S g [.agg [.int .i64 (.ofNat k),afY j r,amP k c n]] ⟨0,[],[],bC⟩)
noncomputable def SL (S:ag)(g:Nat)(r n:Int)(ks:List Nat):Bool:=rH (fun k=>rH (fun j=>rH (fun c=>bq (apS S g k j c r n) (okC k j c)) [0,1,2]) [0,1,2,3,4,5,6,7,8,9,10]) ks
noncomputable def SK (S:ag)(g:Nat)(k:Int)(r n:Int)(lo hi:Int):Option Bool:=yU (aj S g [.agg [.sym [(lo,hi,true)] k,.raw (.int .i64 r),.raw (.int .i64 n)]] ⟨0,[],[],bC⟩)
def dA:List (List Nat):=[
 [48,48,48,48,48,48,48,48,32,78,79,80],
 [48,48,48,48,49,48,48,48,32,69,88,32,65,70,44,65,70,39],
 [48,48,48,49,48,48,48,48,32,68,74,78,90,32,101],
 [48,48,48,49,49,48,48,48,32,74,82,32,101],
 [48,48,49,107,107,48,48,48,32,74,82,32,107,44,101],
 [48,48,112,112,48,48,48,49,32,76,68,32,112,44,119],
 [48,48,112,112,49,48,48,49,32,65,68,68,32,72,76,44,112],
 [48,48,48,48,48,48,49,48,32,76,68,32,40,66,67,41,44,65],
 [48,48,48,49,48,48,49,48,32,76,68,32,40,68,69,41,44,65],
 [48,48,49,48,48,48,49,48,32,76,68,32,40,119,41,44,72,76],
 [48,48,49,49,48,48,49,48,32,76,68,32,40,119,41,44,65],
 [48,48,48,48,49,48,49,48,32,76,68,32,65,44,40,66,67,41],
 [48,48,48,49,49,48,49,48,32,76,68,32,65,44,40,68,69,41],
 [48,48,49,48,49,48,49,48,32,76,68,32,72,76,44,40,119,41],
 [48,48,49,49,49,48,49,48,32,76,68,32,65,44,40,119,41],
 [48,48,112,112,48,48,49,49,32,73,78,67,32,112],
 [48,48,112,112,49,48,49,49,32,68,69,67,32,112],
 [48,48,114,114,114,49,48,48,32,73,78,67,32,114],
 [48,48,114,114,114,49,48,49,32,68,69,67,32,114],
 [48,48,114,114,114,49,49,48,32,76,68,32,114,44,110],
 [48,48,48,48,48,49,49,49,32,82,76,67,65],
 [48,48,48,48,49,49,49,49,32,82,82,67,65],
 [48,48,48,49,48,49,49,49,32,82,76,65],
 [48,48,48,49,49,49,49,49,32,82,82,65],
 [48,48,49,48,48,49,49,49,32,68,65,65],
 [48,48,49,48,49,49,49,49,32,67,80,76],
 [48,48,49,49,48,49,49,49,32,83,67,70],
 [48,48,49,49,49,49,49,49,32,67,67,70],
 [48,49,49,49,48,49,49,48,32,72,65,76,84],
 [48,49,114,114,114,115,115,115,32,76,68,32,114,44,115],
 [49,48,48,48,48,115,115,115,32,65,68,68,32,65,44,115],
 [49,48,48,48,49,115,115,115,32,65,68,67,32,65,44,115],
 [49,48,48,49,48,115,115,115,32,83,85,66,32,115],
 [49,48,48,49,49,115,115,115,32,83,66,67,32,65,44,115],
 [49,48,49,48,48,115,115,115,32,65,78,68,32,115],
 [49,48,49,48,49,115,115,115,32,88,79,82,32,115],
 [49,48,49,49,48,115,115,115,32,79,82,32,115],
 [49,48,49,49,49,115,115,115,32,67,80,32,115],
 [49,49,99,99,99,48,48,48,32,82,69,84,32,99],
 [49,49,113,113,48,48,48,49,32,80,79,80,32,113],
 [49,49,48,48,49,48,48,49,32,82,69,84],
 [49,49,48,49,49,48,48,49,32,69,88,88],
 [49,49,49,48,49,48,48,49,32,74,80,32,40,72,76,41],
 [49,49,49,49,49,48,48,49,32,76,68,32,83,80,44,72,76],
 [49,49,99,99,99,48,49,48,32,74,80,32,99,44,119],
 [49,49,48,48,48,48,49,49,32,74,80,32,119],
 [49,49,48,49,48,48,49,49,32,79,85,84,32,40,110,41,44,65],
 [49,49,48,49,49,48,49,49,32,73,78,32,65,44,40,110,41],
 [49,49,49,48,48,48,49,49,32,69,88,32,40,83,80,41,44,72,76],
 [49,49,49,48,49,48,49,49,32,69,88,32,68,69,44,72,76],
 [49,49,49,49,48,48,49,49,32,68,73],
 [49,49,49,49,49,48,49,49,32,69,73],
 [49,49,99,99,99,49,48,48,32,67,65,76,76,32,99,44,119],
 [49,49,113,113,48,49,48,49,32,80,85,83,72,32,113],
 [49,49,48,48,49,49,48,49,32,67,65,76,76,32,119],
 [49,49,48,48,48,49,49,48,32,65,68,68,32,65,44,110],
 [49,49,48,48,49,49,49,48,32,65,68,67,32,65,44,110],
 [49,49,48,49,48,49,49,48,32,83,85,66,32,110],
 [49,49,48,49,49,49,49,48,32,83,66,67,32,65,44,110],
 [49,49,49,48,48,49,49,48,32,65,78,68,32,110],
 [49,49,49,48,49,49,49,48,32,88,79,82,32,110],
 [49,49,49,49,48,49,49,48,32,79,82,32,110],
 [49,49,49,49,49,49,49,48,32,67,80,32,110],
 [49,49,116,116,116,49,49,49,32,82,83,84,32,116]]
def dQ:List Nat:=[48,48,48,48,48,48,48,48,32,78,79,80,59,48,48,48,48,49,48,48,48,32,69,88,32,65,70,44,65,70,39,59,48,48,48,49,48,48,48,48,32,68,74,78,90,32,101,59,48,48,48,49,49,48,48,48,32,74,82,32,101,59,48,48,49,107,107,48,48,48,32,74,82,32,107,44,101,59,48,48,112,112,48,48,48,49,32,76,68,32,112,44,119,59,48,48,112,112,49,48,48,49,32,65,68,68,32,72,76,44,112,59,48,48,48,48,48,48,49,48,32,76,68,32,40,66,67,41,44,65,59,48,48,48,49,48,48,49,48,32,76,68,32,40,68,69,41,44,65,59,48,48,49,48,48,48,49,48,32,76,68,32,40,119,41,44,72,76,59,48,48,49,49,48,48,49,48,32,76,68,32,40,119,41,44,65,59,48,48,48,48,49,48,49,48,32,76,68,32,65,44,40,66,67,41,59,48,48,48,49,49,48,49,48,32,76,68,32,65,44,40,68,69,41,59,48,48,49,48,49,48,49,48,32,76,68,32,72,76,44,40,119,41,59,48,48,49,49,49,48,49,48,32,76,68,32,65,44,40,119,41,59,48,48,112,112,48,48,49,49,32,73,78,67,32,112,59,48,48,112,112,49,48,49,49,32,68,69,67,32,112,59,48,48,114,114,114,49,48,48,32,73,78,67,32,114,59,48,48,114,114,114,49,48,49,32,68,69,67,32,114,59,48,48,114,114,114,49,49,48,32,76,68,32,114,44,110,59,48,48,48,48,48,49,49,49,32,82,76,67,65,59,48,48,48,48,49,49,49,49,32,82,82,67,65,59,48,48,48,49,48,49,49,49,32,82,76,65,59,48,48,48,49,49,49,49,49,32,82,82,65,59,48,48,49,48,48,49,49,49,32,68,65,65,59,48,48,49,48,49,49,49,49,32,67,80,76,59,48,48,49,49,48,49,49,49,32,83,67,70,59,48,48,49,49,49,49,49,49,32,67,67,70,59,48,49,49,49,48,49,49,48,32,72,65,76,84,59,48,49,114,114,114,115,115,115,32,76,68,32,114,44,115,59,49,48,48,48,48,115,115,115,32,65,68,68,32,65,44,115,59,49,48,48,48,49,115,115,115,32,65,68,67,32,65,44,115,59,49,48,48,49,48,115,115,115,32,83,85,66,32,115,59,49,48,48,49,49,115,115,115,32,83,66,67,32,65,44,115,59,49,48,49,48,48,115,115,115,32,65,78,68,32,115,59,49,48,49,48,49,115,115,115,32,88,79,82,32,115,59,49,48,49,49,48,115,115,115,32,79,82,32,115,59,49,48,49,49,49,115,115,115,32,67,80,32,115,59,49,49,99,99,99,48,48,48,32,82,69,84,32,99,59,49,49,113,113,48,48,48,49,32,80,79,80,32,113,59,49,49,48,48,49,48,48,49,32,82,69,84,59,49,49,48,49,49,48,48,49,32,69,88,88,59,49,49,49,48,49,48,48,49,32,74,80,32,40,72,76,41,59,49,49,49,49,49,48,48,49,32,76,68,32,83,80,44,72,76,59,49,49,99,99,99,48,49,48,32,74,80,32,99,44,119,59,49,49,48,48,48,48,49,49,32,74,80,32,119,59,49,49,48,49,48,48,49,49,32,79,85,84,32,40,110,41,44,65,59,49,49,48,49,49,48,49,49,32,73,78,32,65,44,40,110,41,59,49,49,49,48,48,48,49,49,32,69,88,32,40,83,80,41,44,72,76,59,49,49,49,48,49,48,49,49,32,69,88,32,68,69,44,72,76,59,49,49,49,49,48,48,49,49,32,68,73,59,49,49,49,49,49,48,49,49,32,69,73,59,49,49,99,99,99,49,48,48,32,67,65,76,76,32,99,44,119,59,49,49,113,113,48,49,48,49,32,80,85,83,72,32,113,59,49,49,48,48,49,49,48,49,32,67,65,76,76,32,119,59,49,49,48,48,48,49,49,48,32,65,68,68,32,65,44,110,59,49,49,48,48,49,49,49,48,32,65,68,67,32,65,44,110,59,49,49,48,49,48,49,49,48,32,83,85,66,32,110,59,49,49,48,49,49,49,49,48,32,83,66,67,32,65,44,110,59,49,49,49,48,48,49,49,48,32,65,78,68,32,110,59,49,49,49,48,49,49,49,48,32,88,79,82,32,110,59,49,49,49,49,48,49,49,48,32,79,82,32,110,59,49,49,49,49,49,49,49,48,32,67,80,32,110,59,49,49,116,116,116,49,49,49,32,82,83,84,32,116]
def mI:List (List Nat):=[
 [48,48,48,48,48,115,115,115,32,82,76,67,32,115],
 [48,48,48,48,49,115,115,115,32,82,82,67,32,115],
 [48,48,48,49,48,115,115,115,32,82,76,32,115],
 [48,48,48,49,49,115,115,115,32,82,82,32,115],
 [48,48,49,48,48,115,115,115,32,83,76,65,32,115],
 [48,48,49,48,49,115,115,115,32,83,82,65,32,115],
 [48,48,49,49,48,115,115,115,32,83,76,76,32,115],
 [48,48,49,49,49,115,115,115,32,83,82,76,32,115],
 [48,49,98,98,98,115,115,115,32,66,73,84,32,98,44,115],
 [49,48,98,98,98,115,115,115,32,82,69,83,32,98,44,115],
 [49,49,98,98,98,115,115,115,32,83,69,84,32,98,44,115]]
def oQ:List Nat:=[48,48,48,48,48,115,115,115,32,82,76,67,32,115,59,48,48,48,48,49,115,115,115,32,82,82,67,32,115,59,48,48,48,49,48,115,115,115,32,82,76,32,115,59,48,48,48,49,49,115,115,115,32,82,82,32,115,59,48,48,49,48,48,115,115,115,32,83,76,65,32,115,59,48,48,49,48,49,115,115,115,32,83,82,65,32,115,59,48,48,49,49,48,115,115,115,32,83,76,76,32,115,59,48,48,49,49,49,115,115,115,32,83,82,76,32,115,59,48,49,98,98,98,115,115,115,32,66,73,84,32,98,44,115,59,49,48,98,98,98,115,115,115,32,82,69,83,32,98,44,115,59,49,49,98,98,98,115,115,115,32,83,69,84,32,98,44,115]
def jw:List (List Nat):=[
 [48,49,49,49,48,48,48,48,32,73,78,32,40,67,41],
 [48,49,114,114,114,48,48,48,32,73,78,32,114,44,40,67,41],
 [48,49,49,49,48,48,48,49,32,79,85,84,32,40,67,41,44,48],
 [48,49,114,114,114,48,48,49,32,79,85,84,32,40,67,41,44,114],
 [48,49,112,112,48,48,49,48,32,83,66,67,32,72,76,44,112],
 [48,49,112,112,49,48,49,48,32,65,68,67,32,72,76,44,112],
 [48,49,49,48,48,48,49,49,32,76,68,32,40,119,41,44,72,76,32,42],
 [48,49,49,48,49,48,49,49,32,76,68,32,72,76,44,40,119,41,32,42],
 [48,49,112,112,48,48,49,49,32,76,68,32,40,119,41,44,112],
 [48,49,112,112,49,48,49,49,32,76,68,32,112,44,40,119,41],
 [48,49,48,48,48,49,48,48,32,78,69,71],
 [48,49,120,120,120,49,48,48,32,78,69,71,32,42],
 [48,49,48,48,49,49,48,49,32,82,69,84,73],
 [48,49,48,48,48,49,48,49,32,82,69,84,78],
 [48,49,120,120,120,49,48,49,32,82,69,84,78,32,42],
 [48,49,48,48,48,49,49,48,32,73,77,32,48],
 [48,49,48,49,48,49,49,48,32,73,77,32,49],
 [48,49,48,49,49,49,49,48,32,73,77,32,50],
 [48,49,120,48,120,49,49,48,32,73,77,32,48,32,42],
 [48,49,49,49,48,49,49,48,32,73,77,32,49,32,42],
 [48,49,49,49,49,49,49,48,32,73,77,32,50,32,42],
 [48,49,48,48,48,49,49,49,32,76,68,32,73,44,65],
 [48,49,48,48,49,49,49,49,32,76,68,32,82,44,65],
 [48,49,48,49,48,49,49,49,32,76,68,32,65,44,73],
 [48,49,48,49,49,49,49,49,32,76,68,32,65,44,82],
 [48,49,49,48,48,49,49,49,32,82,82,68],
 [48,49,49,48,49,49,49,49,32,82,76,68],
 [49,48,49,48,48,48,48,48,32,76,68,73],
 [49,48,49,48,48,48,48,49,32,67,80,73],
 [49,48,49,48,48,48,49,48,32,73,78,73],
 [49,48,49,48,48,48,49,49,32,79,85,84,73],
 [49,48,49,48,49,48,48,48,32,76,68,68],
 [49,48,49,48,49,48,48,49,32,67,80,68],
 [49,48,49,48,49,48,49,48,32,73,78,68],
 [49,48,49,48,49,48,49,49,32,79,85,84,68],
 [49,48,49,49,48,48,48,48,32,76,68,73,82],
 [49,48,49,49,48,48,48,49,32,67,80,73,82],
 [49,48,49,49,48,48,49,48,32,73,78,73,82],
 [49,48,49,49,48,48,49,49,32,79,84,73,82],
 [49,48,49,49,49,48,48,48,32,76,68,68,82],
 [49,48,49,49,49,48,48,49,32,67,80,68,82],
 [49,48,49,49,49,48,49,48,32,73,78,68,82],
 [49,48,49,49,49,48,49,49,32,79,84,68,82]]
def ku:List Nat:=[48,49,49,49,48,48,48,48,32,73,78,32,40,67,41,59,48,49,114,114,114,48,48,48,32,73,78,32,114,44,40,67,41,59,48,49,49,49,48,48,48,49,32,79,85,84,32,40,67,41,44,48,59,48,49,114,114,114,48,48,49,32,79,85,84,32,40,67,41,44,114,59,48,49,112,112,48,48,49,48,32,83,66,67,32,72,76,44,112,59,48,49,112,112,49,48,49,48,32,65,68,67,32,72,76,44,112,59,48,49,49,48,48,48,49,49,32,76,68,32,40,119,41,44,72,76,32,42,59,48,49,49,48,49,48,49,49,32,76,68,32,72,76,44,40,119,41,32,42,59,48,49,112,112,48,48,49,49,32,76,68,32,40,119,41,44,112,59,48,49,112,112,49,48,49,49,32,76,68,32,112,44,40,119,41,59,48,49,48,48,48,49,48,48,32,78,69,71,59,48,49,120,120,120,49,48,48,32,78,69,71,32,42,59,48,49,48,48,49,49,48,49,32,82,69,84,73,59,48,49,48,48,48,49,48,49,32,82,69,84,78,59,48,49,120,120,120,49,48,49,32,82,69,84,78,32,42,59,48,49,48,48,48,49,49,48,32,73,77,32,48,59,48,49,48,49,48,49,49,48,32,73,77,32,49,59,48,49,48,49,49,49,49,48,32,73,77,32,50,59,48,49,120,48,120,49,49,48,32,73,77,32,48,32,42,59,48,49,49,49,48,49,49,48,32,73,77,32,49,32,42,59,48,49,49,49,49,49,49,48,32,73,77,32,50,32,42,59,48,49,48,48,48,49,49,49,32,76,68,32,73,44,65,59,48,49,48,48,49,49,49,49,32,76,68,32,82,44,65,59,48,49,48,49,48,49,49,49,32,76,68,32,65,44,73,59,48,49,48,49,49,49,49,49,32,76,68,32,65,44,82,59,48,49,49,48,48,49,49,49,32,82,82,68,59,48,49,49,48,49,49,49,49,32,82,76,68,59,49,48,49,48,48,48,48,48,32,76,68,73,59,49,48,49,48,48,48,48,49,32,67,80,73,59,49,48,49,48,48,48,49,48,32,73,78,73,59,49,48,49,48,48,48,49,49,32,79,85,84,73,59,49,48,49,48,49,48,48,48,32,76,68,68,59,49,48,49,48,49,48,48,49,32,67,80,68,59,49,48,49,48,49,48,49,48,32,73,78,68,59,49,48,49,48,49,48,49,49,32,79,85,84,68,59,49,48,49,49,48,48,48,48,32,76,68,73,82,59,49,48,49,49,48,48,48,49,32,67,80,73,82,59,49,48,49,49,48,48,49,48,32,73,78,73,82,59,49,48,49,49,48,48,49,49,32,79,84,73,82,59,49,48,49,49,49,48,48,48,32,76,68,68,82,59,49,48,49,49,49,48,48,49,32,67,80,68,82,59,49,48,49,49,49,48,49,48,32,73,78,68,82,59,49,48,49,49,49,48,49,49,32,79,84,68,82]
def ny:List (List Nat)→Nat→AV
 |[],_=>.tuple [.str [],.bool false]
 |r::l,op=>cond (sW r op 0 8) (.tuple [.str r,.bool true]) (ny l op)
noncomputable def fB (p:List Nat)(rl:List (List Nat))(op:Nat):Bool:=WQ (ny rl op) 6 [] bC (aj S1 138 [.str p,.int .u8 (.ofNat op)] ⟨0,[],[],bC⟩)
def f2 (n0 nx:Nat)(fo:Nat→Nat)(b:Nat):Nat:=cond (Nat.blt b n0) (fo b) (nx+(b - n0))
theorem JM {n0 nx:Nat}{fo:Nat→Nat}{b:Nat}(h:b < n0):f2 n0 nx fo b=fo b:=by
 have:Nat.blt b n0=true:=by simpa [Nat.blt_eq] using h
 unfold f2
 rw[this];rfl
theorem uJ {n0 nx:Nat}{fo:Nat→Nat}{b:Nat}(h:n0≤b):f2 n0 nx fo b=nx+(b - n0):=by
 have:Nat.blt b n0=false:=by
  cases hq:Nat.blt b n0 with
  |false=>rfl
  |true=>have:=aT hq;omega
 unfold f2
 rw[this];rfl
def rnN (n0:Nat)(f:Nat→Nat):List (Nat×aF)→Option (List (Nat×aF))
 |[]=>some []
 |x::l=>cond (Nat.blt x.1 n0) (rnN n0 f l) (match OG f x.2,rnN n0 f l with
  |some y,some m=>some ((f x.1,y)::m)
  |_,_=>none)
section
variable {n0 nx:Nat} {fo:Nat→Nat}
theorem vF:∀{l m:List (Nat×aF)},rnN n0 (f2 n0 nx fo) l=some m→∀d,(d < nx→au d m=none)∧∀y,au (nx+d) m=some y→∃z,au (n0+d) l=some z∧OG (f2 n0 nx fo) z=some y
 |[],m,h,d=>by
  obtain rfl:=zx h
  exact⟨fun _=>rfl,fun y hy=>by cases hy⟩
 |x::l,m,h,d=>by
  unfold rnN at h
  cases hx:Nat.blt x.1 n0 with
  |true=>
   rw[hx] at h
   have hx:=aT hx
   obtain⟨q1,q2⟩:=vF h d
   refine⟨q1,fun y hy=>?_⟩
   obtain⟨z,h1,h2⟩:=q2 y hy
   exact⟨z,by rw[show x::l=(x.1,x.2)::l from rfl,aI _ _ (by omega)];exact h1,h2⟩
  |false=>
   rw[hx] at h
   simp only[cond_false] at h
   have hge:n0≤x.1:=by
    rcases Nat.lt_or_ge x.1 n0 with hq | hq
    ·have:Nat.blt x.1 n0=true:=by simpa [Nat.blt_eq] using hq
     rw[this] at hx;cases hx
    ·exact hq
   split at h
   case h_2=>cases h
   case h_1 y0 m' hy0 hm'=>
   obtain rfl:=zx h
   obtain⟨q1,q2⟩:=vF hm' d
   rw[uJ hge]
   refine⟨fun hd=>?_,fun y hy=>?_⟩
   ·rw[aI _ _ (by omega)]
    exact q1 hd
   ·by_cases he:x.1=n0+d
    ·rw[show nx+(x.1 - n0)=nx+d by omega,aC] at hy
     obtain rfl:=zx hy
     exact⟨x.2,by rw[show x::l=(x.1,x.2)::l from rfl,he,aC],hy0⟩
    ·rw[aI _ _ (by omega)] at hy
     obtain⟨z,h1,h2⟩:=q2 y hy
     exact⟨z,by rw[show x::l=(x.1,x.2)::l from rfl,aI _ _ he];exact h1,h2⟩
theorem wP:∀{l m:List (Nat×aF)},rnN n0 (f2 n0 nx fo) l=some m→(l.map (·.1)).Nodup→(m.map (·.1)).Nodup∧∀k,k∈m.map (·.1)→∃c,n0≤c∧c∈l.map (·.1)∧k=nx+(c - n0)
 |[],m,h,_=>by
  obtain rfl:=zx h
  exact⟨List.nodup_nil,fun k hk=>by cases hk⟩
 |x::l,m,h,hn=>by
  rw[List.map_cons,List.nodup_cons] at hn
  unfold rnN at h
  cases hx:Nat.blt x.1 n0 with
  |true=>
   rw[hx] at h
   obtain⟨q1,q2⟩:=wP h hn.2
   exact⟨q1,fun k hk=>by
    obtain⟨c,h1,h2,h3⟩:=q2 k hk
    exact⟨c,h1,zm _ h2,h3⟩⟩
  |false=>
   rw[hx] at h
   simp only[cond_false] at h
   have hge:n0≤x.1:=by
    rcases Nat.lt_or_ge x.1 n0 with hq | hq
    ·have:Nat.blt x.1 n0=true:=by simpa [Nat.blt_eq] using hq
     rw[this] at hx;cases hx
    ·exact hq
   split at h
   case h_2=>cases h
   case h_1 y0 m' hy0 hm'=>
   obtain rfl:=zx h
   obtain⟨q1,q2⟩:=wP hm' hn.2
   rw[uJ hge]
   refine⟨?_,fun k hk=>?_⟩
   ·rw[List.map_cons,List.nodup_cons]
    refine⟨fun hk=>?_,q1⟩
    obtain⟨c,h1,h2,h3⟩:=q2 _ hk
    have:c=x.1:=by omega
    subst this
    exact hn.1 h2
   ·rw[List.map_cons] at hk
    rcases List.mem_cons.1 hk with rfl | hk
    ·exact⟨x.1,hge,zn,rfl⟩
    ·obtain⟨c,h1,h2,h3⟩:=q2 k hk
     exact⟨c,h1,zm _ h2,h3⟩
def Env.sub (ρ:Env)(fo:Nat→Nat):Env:=⟨fun b=>ρ.blk (fo b),fun b=>ρ.cap (fo b),fun b=>ρ.es (fo b)⟩
theorem Env.ajh (ρ:Env)(fo:Nat→Nat)(n:Nat):RnE n fo (ρ.sub fo) ρ:=⟨fun _ _=>rfl,fun _ _=>rfl,fun _ _=>rfl⟩
theorem Zf {ρ:Env}{fo:Nat→Nat}{n:Nat}{w:World}{b:Nat}{k k':aF}(hk:OG fo k=some k')(ho:k.ok n)(hr:k'.rep ρ w (fo b)):k.rep (ρ.sub fo) w b:=by
 have hR:=Env.ajh ρ fo n
 cases k <;> simp only[OG,Option.some.injEq,reduceCtorEq] at hk
 ·rename_i vs e sz
  subst hk
  have ho:oks n vs:=ho
  cases sz with
  |none=>
   simp only[aF.rep] at hr ⊢
   rw[← lK hR _ ho]
   exact hr
  |some sz=>
   obtain⟨q,cur,h1,h2,h3,h4,h5,h6⟩:=hr
   exact⟨q,cur,h1,h2,h3,h4,by rw[CZ] at h5;exact h5,by rw[← lK hR _ ho];exact h6⟩
 ·rename_i es c
  subst hk
  simp only[aF.rep] at hr ⊢
  have e:(es.map fun x=>(su fo x.1,su fo x.2.1,x.2.2)).map (aH ρ)=es.map (aH (ρ.sub fo)):=by
   rw[List.map_map]
   refine List.map_congr_left fun x hx=>?_
   simp only[Function.comp_apply,aH,uw hR _ (ho x hx).1,uw hR _ (ho x hx).2]
  rw[← e]
  exact hr
theorem aO.sub {w0:World}{ρ:Env}{W:AW}{w:World}(hW:aO w0 ρ W w){Xf:List (Nat×aF)}(hok:∀b k,au b Xf=some k→b < n0∧k.ok n0)(hin:∀b k,au b Xf=some k→∃k',OG fo k=some k'∧au (fo b) W.bl=some k')
 (hinj:∀b b' k k',au b Xf=some k→au b' Xf=some k'→fo b=fo b'→b=b') (Nl:(Xf.map (·.1)).Nodup):aO w0 (ρ.sub fo) ⟨n0,Xf,[],W.gl⟩ w:=by
 refine⟨hW.below,fun b k hb=>?_,fun b b' k k' h1 h2 e=>?_,fun b k hb=>?_,Nl,hW.gl⟩
 ·obtain⟨q1,q2⟩:=hok b k hb
  obtain⟨k',_,h2⟩:=hin b k hb
  obtain⟨_,_,q3,q4⟩:=hW.ok _ _ h2
  exact⟨q1,q2,q3,q4⟩
 ·obtain⟨_,_,g1⟩:=hin b k h1
  obtain⟨_,_,g2⟩:=hin b' k' h2
  exact hinj b b' k k' h1 h2 (hW.inj _ _ _ _ g1 g2 e)
 ·obtain⟨k',g1,g2⟩:=hin b k hb
  exact Zf g1 (hok b k hb).2 (hW.rep _ _ g2)
theorem Post.frame {w0:World}{ρ:Env}{W:AW}{w w':World}(hW:aO w0 ρ W w){Xf:List (Nat×aF)}(hfo:∀b,b < n0→fo b < W.nx){gG:Env}{W1:AW}{m:List (Nat×aF)}(hm:rnN n0 (f2 n0 W.nx fo) W1.bl=some m)(abV:W1.az=[])
 (hP:Post w0 (ρ.sub fo) ⟨n0,Xf,[],W.gl⟩ w gG W1 w'):
 ∃ρ',Post w0 ρ W w ρ' ⟨W.nx+(W1.nx - n0),m++W.bl,W.az,W.gl⟩ w'∧RnE W1.nx (f2 n0 W.nx fo) gG ρ':=by
 have hn:n0≤W1.nx:=hP.nx
 let ρ':Env:=⟨fun b=>if b < W.nx then ρ.blk b else gG.blk (b - W.nx+n0),fun b=>if b < W.nx then ρ.cap b else gG.cap (b - W.nx+n0),fun b=>if b < W.nx then ρ.es b else gG.es (b - W.nx+n0)⟩
 have hlo:∀b,b < W.nx→ρ'.blk b=ρ.blk b:=fun b hb=>if_pos hb
 have hE:Ext W.nx ρ ρ':=⟨fun b hb=>if_pos hb,fun b hb=>if_pos hb,fun b hb=>if_pos hb⟩
 have hhi:∀c,n0≤c→ρ'.blk (W.nx+(c - n0))=gG.blk c:=fun c hc=>by
  show (if W.nx+(c - n0) < W.nx then _ else gG.blk (W.nx+(c - n0) - W.nx+n0))=_
  rw[if_neg (by omega)]
  congr 1
  omega
 have hRn:RnE W1.nx (f2 n0 W.nx fo) gG ρ':=by
  refine⟨fun b hb=>?_,fun b hb=>?_,fun b hb=>?_⟩
  all_goals
   rcases Nat.lt_or_ge b n0 with hlt | hge
  ·rw[JM hlt,hlo _ (hfo b hlt),hP.ext.blk b hlt];rfl
  ·rw[uJ hge,hhi b hge]
  ·rw[JM hlt,hE.cap _ (hfo b hlt),hP.ext.cap b hlt];rfl
  ·rw[uJ hge]
   show (if W.nx+(b - n0) < W.nx then _ else gG.cap (W.nx+(b - n0) - W.nx+n0))=_
   rw[if_neg (by omega)]
   congr 1
   omega
  ·rw[JM hlt,hE.es _ (hfo b hlt),hP.ext.es b hlt];rfl
  ·rw[uJ hge]
   show (if W.nx+(b - n0) < W.nx then _ else gG.es (W.nx+(b - n0) - W.nx+n0))=_
   rw[if_neg (by omega)]
   congr 1
   omega
 have hget:∀b k,au b (m++W.bl)=some k→(b < W.nx∧au b W.bl=some k)∨∃c z,n0≤c∧b=W.nx+(c - n0)∧au c W1.bl=some z∧OG (f2 n0 W.nx fo) z=some k:=fun b k hk=>by
  rw[j6] at hk
  by_cases hlt:b < W.nx
  ·rw[(vF hm b).1 hlt] at hk
   exact .inl ⟨hlt,hk⟩
  ·have e:b=W.nx+(b - W.nx):=by omega
   cases hq:au b m with
   |none=>
    rw[hq] at hk
    exact (hlt (hW.ok b k hk).1).elim
   |some y=>
    rw[hq] at hk
    obtain rfl:=zx hk
    rw[e] at hq
    obtain⟨z,h1,h2⟩:=(vF hm _).2 y hq
    exact .inr ⟨n0+(b - W.nx),z,by omega,by omega,h1,h2⟩
 have hT:∀i,¬fD (ρ.sub fo) ⟨n0,Xf,[],W.gl⟩ W1 i:=fun i ⟨b,hb,_,_⟩=>by rw[abV] at hb;cases hb
 have hup:∀c,n0≤c→c < W1.nx→w.heap.size≤gG.blk c:=fun c hc1 hc=>by
  rcases Nat.lt_or_ge (gG.blk c) w.heap.size with h | h
  ·exact (hT _ (hP.fresh c hc1 hc h)).elim
  ·exact h
 have hgr:Gr w w' (fun _=>False):=hP.gr.mono fun i _ h=>hT i h
 have hmap:∀b,b < W1.nx→f2 n0 W.nx fo b < W.nx+(W1.nx - n0):=fun b hb=>by
  rcases Nat.lt_or_ge b n0 with hlt | hge
  ·rw[JM hlt]
   have:=hfo b hlt
   omega
  ·rw[uJ hge]
   omega
 refine⟨ρ',⟨hE,Nat.le_add_right _ _,fun _ h=>h,hgr.mono fun _ _ h=>h.elim,fun b h1 h2 h3=>?_,⟨hP.rep.below,fun b k hk=>?_,fun b b' k k' h1 h2 e=>?_,fun b k hk=>?_,?_,hW.gl⟩,fun b hlt hs=>?_,fun b _ h=>.inl h,rfl⟩,hRn⟩
 ·have h2:b < W.nx+(W1.nx - n0):=h2
  have e:b=W.nx+((b - W.nx+n0) - n0):=by omega
  rw[e,hhi _ (by omega)] at h3
  have:=hup (b - W.nx+n0) (by omega) (by omega)
  omega
 ·rcases hget b k hk with⟨hlt,h⟩ | ⟨c,z,hc,rfl,hz,hzk⟩
  ·obtain⟨q1,q2,q3,q4⟩:=hW.ok b k h
   rw[hlo b hlt]
   exact⟨zq hlt (Nat.le_add_right _ _),aF.ok.mono (Nat.le_add_right _ _) q2,q3,zq q4 hgr.size⟩
  ·obtain⟨q1,q2,q3,q4⟩:=hP.rep.ok c z hz
   rw[hhi c hc]
   exact⟨by show W.nx+(c - n0) < W.nx+(W1.nx - n0);omega,Ze hmap hzk q2,q3,q4⟩
 ·rcases hget b k h1 with⟨hlt,g1⟩ | ⟨c,z,hc,rfl,hz,hzk⟩ <;> rcases hget b' k' h2 with⟨hlt',g2⟩ | ⟨c',z',hc',rfl,hz',axl⟩
  ·rw[hlo b hlt,hlo b' hlt'] at e
   exact hW.inj b b' k k' g1 g2 e
  ·rw[hlo b hlt,hhi c' hc'] at e
   have:=(hW.ok b k g1).2.2.2
   have:=hup c' hc' (hP.rep.ok c' z' hz').1
   omega
  ·rw[hhi c hc,hlo b' hlt'] at e
   have:=(hW.ok b' k' g2).2.2.2
   have:=hup c hc (hP.rep.ok c z hz).1
   omega
  ·rw[hhi c hc,hhi c' hc'] at e
   rw[hP.rep.inj c c' z z' hz hz' e]
 ·rcases hget b k hk with⟨hlt,h⟩ | ⟨c,z,hc,rfl,hz,hzk⟩
  ·exact aF.sH (hgr.block _ (hW.ok b k h).2.2.2 id) hE hlt (hW.ok b k h).2.1 (hW.rep b k h)
  ·have:=OE hRn (hP.rep.ok c z hz).1 hzk (hP.rep.ok c z hz).2.1 (hP.rep.rep c z hz)
   rwa [uJ hc] at this
 ·obtain⟨k1,k2⟩:=wP hm hP.rep.kN
  rw[List.map_append,List.nodup_append]
  refine⟨k1,hW.kN,fun a ha b hb e=>?_⟩
  obtain⟨c,_,_,rfl⟩:=k2 a ha
  obtain⟨y,hy,rfl⟩:=List.mem_map.1 hb
  have:=hW.xA hy
  omega
 ·rw[Option.isSome_iff_exists] at hs ⊢
  obtain⟨k,hk⟩:=hs
  rcases hget b k hk with⟨_,h⟩ | ⟨c,z,hc,rfl,_⟩
  ·exact⟨k,h⟩
  ·omega
end
abbrev EF:=List Nat×List AV×TypeId×AV×Nat×List (Nat×aF)
def IY (call:ag)(gl:List (Nat×List Value))(g:Nat)(e:EF):Bool:=
 cond (gV e.2.1) (WQ e.2.2.2.1 e.2.2.2.2.1 e.2.2.2.2.2 gl (call g [.str e.1,.slice 0 0 0 e.2.1.length (some e.2.1.length)] ⟨1,[(0,.cells e.2.1 e.2.2.1 none)],[],gl⟩)) false
def IV (o:List Nat)(vs:List AV)(e:TypeId)(n c:Nat):List EF→Option EF
 |[]=>none
 |x::l=>cond (jS o x.1 && lC vs x.2.1 && Nat.beq e x.2.2.1 && Nat.beq n x.2.1.length && Nat.beq c x.2.1.length) (some x) (IV o vs e n c l)
theorem Bl {o:List Nat}{vs:List AV}{e:TypeId}{n c:Nat}:∀{l:List EF} {x:EF},IV o vs e n c l=some x→x∈l∧o=x.1∧vs=x.2.1∧e=x.2.2.1∧n=x.2.1.length∧c=x.2.1.length
 |[],x,h=>by cases h
 |y::l,x,h=>by
  unfold IV at h
  generalize hq:(jS o y.1 && lC vs y.2.1 && Nat.beq e y.2.2.1 && Nat.beq n y.2.1.length && Nat.beq c y.2.1.length)=q at h
  cases q with
  |false=>
   obtain⟨h1,h2⟩:=Bl (show IV o vs e n c l=some x from h)
   exact⟨zm _ h1,h2⟩
  |true=>
   obtain rfl:=zx h
   simp only[Bool.and_eq_true] at hq
   obtain⟨⟨⟨⟨q1,q2⟩,q3⟩,q4⟩,q5⟩:=hq
   exact⟨zn,fA q1,lv q2,(beq_iff _ _).1 q3,(beq_iff _ _).1 q4,(beq_iff _ _).1 q5⟩
def amv (gl:List (Nat×List Value))(g:Nat)(l:List EF):ag:=fun g' args W=>cond (Nat.beq g' g) (match args with
 |[.str o,.slice b 0 0 n (some c)]=>match au b W.bl with
  |some (.cells vs e none)=>match IV o vs e n c l with
   |some x=>match rnN 1 (f2 1 W.nx (fun _=>b)) x.2.2.2.2.2 with
    |some m=>cond (Xd gl W.gl) (cond (Nat.blt b W.nx) (some (su (f2 1 W.nx (fun _=>b)) x.2.2.2.1,⟨W.nx+(x.2.2.2.2.1 - 1),m++W.bl,W.az,W.gl⟩)) none) none
    |none=>none
   |none=>none
  |_=>none
 |_=>none) none
theorem oI {f:Nat→Nat}:∀{l:List AV},gV l=true→OD f l=l
 |[],_=>rfl
 |v::l,h=>by
  simp only[gV,Bool.and_eq_true] at h
  rw[OD,oI h.2,Jr v h.1]
where
 Jr {f:Nat→Nat}:∀(v:AV),mq v=true→su f v=v
  | .raw _,_ | .bool _,_ | .int _ _,_ | .str _,_ | .bY,_ | .iV _ _,_ | .aX,_=>rfl
  | .ptr _ _,h | .slice _ _ _ _ _,h | .zh _,h | .map _,h | .ug _,h | .rA _,h | .sym _ _,h=>by simp[mq] at h
  | .fn _ l c,h=>by
    simp only[mq,Bool.and_eq_true] at h
    rw[su,oI h.1,oI h.2]
  | .iface _ v,h=>by rw[su,Jr v h]
  | .agg l,h=>by rw[su,oI h]
  | .tuple l,h=>by rw[su,oI h]
theorem afS {P:Program}{call:ag}(hC:ah P call)(gl:List (Nat×List Value))(g:Nat)(l:List EF)(h:l.all (IY call gl g)=true):ah P (amv gl g l):=fun g' args W v W' hc=>by
 unfold amv at hc
 cases hg:Nat.beq g' g with
 |false=>rw[hg] at hc;cases hc
 |true=>
 rw[hg] at hc
 obtain rfl:=(beq_iff _ _).1 hg
 simp only[cond_true] at hc
 split at hc
 case h_2=>cases hc
 case h_1 o b n c=>
 split at hc
 case h_2=>cases hc
 case h_1 vs e hb=>
 split at hc
 case h_2=>cases hc
 case h_1 x hx=>
 split at hc
 case h_2=>cases hc
 case h_1 m hm=>
 cases hgl:Xd gl W.gl with
 |false=>rw[hgl] at hc;cases hc
 |true=>
 cases hbn:Nat.blt b W.nx with
 |false=>rw[hgl,hbn] at hc;cases hc
 |true=>
 rw[hgl,hbn] at hc
 obtain rfl:=sP hgl
 simp only[cond_true] at hc
 obtain⟨rfl,rfl⟩:=zw (zx hc)
 obtain⟨hxl,rfl,rfl,rfl,rfl,rfl⟩:=Bl hx
 have hent:=List.all_eq_true.1 h x hxl
 unfold IY at hent
 cases hfl:gV x.2.1 with
 |false=>rw[hfl] at hent;cases hent
 |true=>
 rw[hfl] at hent
 have hr:=vV (show WQ _ _ _ _ _=true from hent)
 have hbn:=aT hbn
 obtain⟨q1,_,q3⟩:=hC _ _ _ _ _ hr
 refine⟨q1,fun _ hb=>hb,fun w0 ρ w _ hW=>?_⟩
 have hone:∀b' k,au b' [(0,aF.cells x.2.1 x.2.2.1 none)]=some k→b'=0∧k= .cells x.2.1 x.2.2.1 none:=fun b' k hk=>by
  by_cases h0:(0:Nat)=b'
  ·subst h0
   rw[aC] at hk
   exact⟨rfl,(zx hk).symm⟩
  ·rw[aI _ _ h0] at hk
   cases hk
 have h0:aO w0 (ρ.sub fun _=>b) ⟨1,[(0,.cells x.2.1 x.2.2.1 none)],[],W.gl⟩ w:=hW.sub (fun b' k hk=>by
  obtain⟨rfl,rfl⟩:=hone b' k hk
  exact⟨Nat.zero_lt_one,iP 1 _ hfl⟩) (fun b' k hk=>by
  obtain⟨rfl,rfl⟩:=hone b' k hk
  exact⟨.cells x.2.1 x.2.2.1 none,by rw[OG,oI hfl],hb⟩) (fun b1 b2 k1 k2 h1 h2 _=>by
  rw[(hone b1 k1 h1).1,(hone b2 k2 h2).1]) (by simp)
 have hargs:oks 1 [.str x.1,.slice 0 0 0 x.2.1.length (some x.2.1.length)]:=⟨trivial,Nat.zero_lt_one,trivial⟩
 have hcall:=q3 w0 (ρ.sub fun _=>b) w hargs h0
 have ea:aG (ρ.sub fun _=>b) [.str x.1,.slice 0 0 0 x.2.1.length (some x.2.1.length)]=aG ρ [.str x.1,.slice b 0 0 x.2.1.length (some x.2.1.length)]:=rfl
 rw[ea] at hcall
 refine hcall.mono ?_
 rintro e' w' ⟨gG,rfl,hP,hv⟩
 obtain⟨ρ',hP',hRn⟩:=hP.frame hW (fun _ _=>hbn) hm rfl
 exact⟨ρ',by rw[uw hRn _ hv],hP',AL (fun b' hb'=>by
  show _ < W.nx+(x.2.2.2.2.1 - 1)
  rcases Nat.lt_or_ge b' 1 with hlt | hge
  ·rw[JM hlt];omega
  ·rw[uJ hge]
   have:b' < x.2.2.2.2.1:=hb'
   omega) _ hv⟩
end Go.Proofs.YtceaodnohnekkaaGreatDoor.Ex
namespace Go.Proofs.YtceaodnohnekkaaGreatDoor
open Go.RowKit
def sV (s:ByteArray)(x:Nat):Bool:=xV s.data.toList x && !(s.size == 0)
theorem am2 (s:ByteArray)(x b:Nat)(w:World)(hx:x < 256)(hs:s.size≤maxLen)(hc:w.cell? ⟨b,0,none⟩=some (.int .i64 (x:Int))):
 Calls Tryz.prog 136 #[.string s,.pointer (some ⟨b,0,none⟩)] w fun e w'=>e= .returned (.bool (sV s x))∧w=w':=by
 have F:=zz (fun W=>Jt s x W hx hs)
 have hw:IntKind.u8.wrap (x:Int)=(x:Int):=by simp[IntKind.wrap,IntKind.bits,IntKind.signed];omega
 clear hs
 go_enter Tryz.func136,Tryz.ntmps136
 go_wp2_with (first | (simp only) | (go_at_call 137;refine (F.out _).mono ?_;rintro e w' ⟨rfl,rfl⟩))
 all_goals go_ret
 all_goals exact⟨rfl,rfl⟩
def qw (l:List ByteArray):List Value:=l.map Value.string
theorem Rd.Oy {w:World}{p:Nat→Prop}{A:Option Addr}{l:List ByteArray}(h:Rd w p A (qw l)){k:Nat}(hk:k < l.length):
 ∃b o s,A=some ⟨b,o,none⟩∧w.cell? ⟨b,o+k,none⟩=some (.string s)∧l[k]? =some s:=by
 have hx:k < (qw l).length:=by simp[qw];exact hk
 obtain⟨b,o,h1,_,h3⟩:=h.ex (fun e=>by rw[e] at hx;simp at hx)
 exact⟨b,o,l[k],h1,h3 k _ (by simp[qw,hk]),List.getElem?_eq_getElem hk⟩
def jL (x:Nat):List ByteArray→Nat→Int
 |[],_=>-1
 |s::l,k=>if sV s x then (k:Int) else jL x l (k+1)
theorem nH {x:Nat}:∀{l:List ByteArray} {k i:Nat},(∀j s,j < i→l[j]? =some s→sV s x=false)→i≤l.length→jL x l k=jL x (l.drop i) (k+i)
 |l,k,0,_,_=>by simp
 |[],k,i+1,_,h=>by simp at h
 |s::l,k,i+1,h,hl=>by
  have h0:=h 0 s (by omega) rfl
  rw[show jL x (s::l) k=(if sV s x then (k:Int) else jL x l (k+1)) from rfl,h0,List.drop_succ_cons]
  simp only[Bool.false_eq_true,if_false]
  rw[nH (l:=l) (k:=k+1) (i:=i) (fun j t hj ht=>h (j+1) t (by omega) (by simpa using ht)) (by simpa using hl),show k+1+i=k+(i+1) by omega]
theorem xW {x:Nat}:∀(l:List ByteArray) (k:Nat),decide (0≤jL x l k)=l.any (sV · x)
 |[],k=>rfl
 |s::l,k=>by
  unfold jL
  rw[List.any_cons]
  cases hf:sV s x
  ·simp[xW l (k+1)]
  ·simp
set_option maxHeartbeats 400000 in
theorem abP (A:Option Addr)(l:List ByteArray)(n c x b:Nat)(w:World)(p:Nat→Prop)(hn:l.length=n)(hm:(n:Int)≤140737488355328)(hx:x < 256)(hs:∀s,s∈l→s.size≤maxLen)(h:Rd w p A (qw l))(hc:w.cell? ⟨b,0,none⟩=some (.int .i64 (x:Int))):
 Calls Tryz.prog 198 #[.slice A n c,.func (.func 136) #[] #[.pointer (some ⟨b,0,none⟩)]] w fun e w'=>e= .returned (.int .i64 (jL x l 0))∧w=w':=by
 have HR:=zz h
 have HN:=zz hn
 have HS:=zz hs
 have HC:=zz hc
 have HX:=zz hx
 clear h hn hs hc hx
 go_enter Tryz.func198,Tryz.ntmps198
 go_wp2
 go_loop [8] (fun v=>∃k:Nat,v= .int .i64 k∧k≤n∧Hid (∀j s,j < k→l[j]? =some s→sV s x=false)) (fun v=>n - (intOf v).toNat)
 case atStart=>exact⟨0,rfl,by omega,fun j _ hj=>absurd hj (Nat.not_lt_zero _)⟩
 case round=>
  obtain⟨k,rfl,hk,hr⟩:=hrel
  by_cases hlt:k < n
  ·obtain⟨b',o,s,rfl,hc0,hz⟩:=HR.out.Oy (k:=k) (by rw[HN.out];exact hlt)
   have HZ:=zz hz
   have F:=zz (fun W (hW:w=W)=>am2 s x b W HX.out (HS.out s (List.mem_of_getElem? hz)) (by rw[← hW];exact HC.out))
   clear hz
   by_cases hf:sV s x=true
   ·have HI:Hid (jL x l 0=(k:Int)):=by
     have h1:=nH (k:=0) hr.out (by have:=HN.out;omega)
     have hlt2:k < l.length:=by rw[HN.out];exact hlt
     have h2:l.drop k=s::l.drop (k+1):=by
      rw[List.drop_eq_getElem_cons hlt2]
      have:=List.getElem?_eq_getElem hlt2
      rw[HZ.out] at this
      rw[Option.some.inj this]
     show _=_
     rw[h1,h2]
     unfold jL
     rw[hf]
     simp
    go_wp2_with (go_at_call 136;refine (F.out _ rfl).mono ?_;rintro e w' ⟨rfl,rfl⟩;rw[hf])
    all_goals go_ret
    all_goals exact⟨bH HI.out.symm,rfl⟩
   ·have hf:sV s x=false:=by simpa using hf
    go_wp2_with (go_at_call 136;refine (F.out _ rfl).mono ?_;rintro e w' ⟨rfl,rfl⟩;rw[hf])
    exact⟨⟨k+1,by go_num,by omega,fun j t hj ht=>by
     by_cases e:j=k
     ·subst e
      rw[HZ.out] at ht
      rw[← Option.some.inj ht];exact hf
     ·exact hr.out j t (by omega) ht⟩,by simp[intOf];omega⟩
  ·have HI:Hid (jL x l 0= -1):=by
    have h1:=nH (k:=0) (i:=l.length) (fun j s hj=>hr.out j s (by have:=HN.out;omega)) (zu _)
    show _=_
    rw[h1,List.drop_length];rfl
   go_wp2
   all_goals go_ret
   all_goals exact⟨bH HI.out.symm,rfl⟩
theorem BP (A:Option Addr)(l:List ByteArray)(n c x b:Nat)(w:World)(p:Nat→Prop)(hn:l.length=n)(hm:(n:Int)≤140737488355328)(hx:x < 256)(hs:∀s,s∈l→s.size≤maxLen)(h:Rd w p A (qw l))(hc:w.cell? ⟨b,0,none⟩=some (.int .i64 (x:Int))):
 Calls Tryz.prog 135 #[.slice A n c,.func (.func 136) #[] #[.pointer (some ⟨b,0,none⟩)]] w fun e w'=>e= .returned (.bool (l.any (sV · x)))∧w=w':=by
 have F:=zz (fun W (hW:w=W)=>abP A l n c x b W p hn hm hx hs (by rw[← hW];exact h) (by rw[← hW];exact hc))
 have HA:=zz (xW (x:=x) l 0)
 clear h hn hs hc hx hm
 go_enter Tryz.func135,Tryz.ntmps135
 go_wp2_with (go_at_call 198;refine (F.out _ rfl).mono ?_;rintro e w' ⟨rfl,rfl⟩)
 all_goals go_ret
 all_goals exact⟨aQ HA.out,rfl⟩
end Go.Proofs.YtceaodnohnekkaaGreatDoor
namespace Go.Proofs.YtceaodnohnekkaaGreatDoor.Ex
open Go.RowKit
def ahi:List dN:=[([],.map 0,2,[(0,.map [(.str [65,68,67],.bool true,0),(.str [65,68,68],.bool true,1),(.str [65,78,68],.bool true,2),(.str [66,73,84],.bool true,3),(.str [67,65,76,76],.bool true,4),(.str [67,67,70],.bool true,5),(.str [67,80],.bool true,6),(.str [67,80,68],.bool true,7),(.str [67,80,68,82],.bool true,8),(.str [67,80,73],.bool true,9),(.str [67,80,73,82],.bool true,10),(.str [67,80,76],.bool true,11),(.str [68,65,65],.bool true,12),(.str [68,69,67],.bool true,13),(.str [68,73],.bool true,14),(.str [68,74,78,90],.bool true,15),(.str [69,73],.bool true,16),(.str [69,88],.bool true,17),(.str [69,88,88],.bool true,18),(.str [72,65,76,84],.bool true,19),(.str [73,77],.bool true,20),(.str [73,78],.bool true,21),(.str [73,78,67],.bool true,22),(.str [73,78,68],.bool true,23),(.str [73,78,68,82],.bool true,24),(.str [73,78,73],.bool true,25),(.str [73,78,73,82],.bool true,26),(.str [74,80],.bool true,27),(.str [74,82],.bool true,28),(.str [76,68],.bool true,29),(.str [76,68,68],.bool true,30),(.str [76,68,68,82],.bool true,31),(.str [76,68,73],.bool true,32),(.str [76,68,73,82],.bool true,33),(.str [78,69,71],.bool true,34),(.str [78,79,80],.bool true,35),(.str [79,82],.bool true,36),(.str [79,84,68,82],.bool true,37),(.str [79,84,73,82],.bool true,38),(.str [79,85,84],.bool true,39),(.str [79,85,84,68],.bool true,40),(.str [79,85,84,73],.bool true,41),(.str [80,79,80],.bool true,42),(.str [80,85,83,72],.bool true,43),(.str [82,69,83],.bool true,44),(.str [82,69,84],.bool true,45),(.str [82,69,84,73],.bool true,46),(.str [82,69,84,78],.bool true,47),(.str [82,76],.bool true,48),(.str [82,76,65],.bool true,49),(.str [82,76,67],.bool true,50),(.str [82,76,67,65],.bool true,51),(.str [82,76,68],.bool true,52),(.str [82,82],.bool true,53),(.str [82,82,65],.bool true,54),(.str [82,82,67],.bool true,55),(.str [82,82,67,65],.bool true,56),(.str [82,82,68],.bool true,57),(.str [82,83,84],.bool true,58),(.str [83,66,67],.bool true,59),(.str [83,67,70],.bool true,60),(.str [83,69,84],.bool true,61),(.str [83,76,65],.bool true,62),(.str [83,76,76],.bool true,63),(.str [83,82,65],.bool true,64),(.str [83,82,76],.bool true,65),(.str [83,85,66],.bool true,66),(.str [88,79,82],.bool true,67)] 68)])]
def amR:EF:=([76,68],[.int .i64 (.ofNat 3),.int .i64 (.ofNat 5)],3,.slice 6390 0 0 45 none,6658,[(6390,.cells [.int .i64 (.ofNat 3),.int .u8 (.ofNat 33),.str [76,68],.slice 754 0 0 2 none,.str [119],.bool false,.int .i64 (.ofNat 3),.int .u8 (.ofNat 34),.str [76,68],.slice 810 0 0 2 none,.str [119],.bool false,.int .i64 (.ofNat 3),.int .u8 (.ofNat 38),.str [76,68],.slice 875 0 0 2 none,.str [110],.bool false,.int .i64 (.ofNat 3),.int .u8 (.ofNat 42),.str [76,68],.slice 934 0 0 2 none,.str [119],.bool false,.int .i64 (.ofNat 3),.int .u8 (.ofNat 46),.str [76,68],.slice 999 0 0 2 none,.str [110],.bool false,.int .i64 (.ofNat 3),.int .u8 (.ofNat 54),.str [76,68],.slice 1183 0 0 2 none,.str [100,110],.bool false,.int .i64 (.ofNat 3),.int .u8 (.ofNat 68),.str [76,68],.slice 1688 0 0 2 none,.str [],.bool false,.int .i64 (.ofNat 3),.int .u8 (.ofNat 69),.str [76,68],.slice 1766 0 0 2 none,.str [],.bool false,.int .i64 (.ofNat 3),.int .u8 (.ofNat 70),.str [76,68],.slice 1845 0 0 2 none,.str [100],.bool false,.int .i64 (.ofNat 3),.int .u8 (.ofNat 76),.str [76,68],.slice 2313 0 0 2 none,.str [],.bool false,.int .i64 (.ofNat 3),.int .u8 (.ofNat 77),.str [76,68],.slice 2393 0 0 2 none,.str [],.bool false,.int .i64 (.ofNat 3),.int .u8 (.ofNat 78),.str [76,68],.slice 2474 0 0 2 none,.str [100],.bool false,.int .i64 (.ofNat 3),.int .u8 (.ofNat 84),.str [76,68],.slice 2934 0 0 2 none,.str [],.bool false,.int .i64 (.ofNat 3),.int .u8 (.ofNat 85),.str [76,68],.slice 3012 0 0 2 none,.str [],.bool false,.int .i64 (.ofNat 3),.int .u8 (.ofNat 86),.str [76,68],.slice 3091 0 0 2 none,.str [100],.bool false,.int .i64 (.ofNat 3),.int .u8 (.ofNat 92),.str [76,68],.slice 3549 0 0 2 none,.str [],.bool false,.int .i64 (.ofNat 3),.int .u8 (.ofNat 93),.str [76,68],.slice 3627 0 0 2 none,.str [],.bool false,.int .i64 (.ofNat 3),.int .u8 (.ofNat 94),.str [76,68],.slice 3706 0 0 2 none,.str [100],.bool false,.int .i64 (.ofNat 3),.int .u8 (.ofNat 96),.str [76,68],.slice 3858 0 0 2 none,.str [],.bool false,.int .i64 (.ofNat 3),.int .u8 (.ofNat 97),.str [76,68],.slice 3938 0 0 2 none,.str [],.bool false,.int .i64 (.ofNat 3),.int .u8 (.ofNat 98),.str [76,68],.slice 4016 0 0 2 none,.str [],.bool false,.int .i64 (.ofNat 3),.int .u8 (.ofNat 99),.str [76,68],.slice 4094 0 0 2 none,.str [],.bool false,.int .i64 (.ofNat 3),.int .u8 (.ofNat 100),.str [76,68],.slice 4172 0 0 2 none,.str [],.bool false,.int .i64 (.ofNat 3),.int .u8 (.ofNat 101),.str [76,68],.slice 4250 0 0 2 none,.str [],.bool false,.int .i64 (.ofNat 3),.int .u8 (.ofNat 102),.str [76,68],.slice 4329 0 0 2 none,.str [100],.bool false,.int .i64 (.ofNat 3),.int .u8 (.ofNat 103),.str [76,68],.slice 4405 0 0 2 none,.str [],.bool false,.int .i64 (.ofNat 3),.int .u8 (.ofNat 104),.str [76,68],.slice 4483 0 0 2 none,.str [],.bool false,.int .i64 (.ofNat 3),.int .u8 (.ofNat 105),.str [76,68],.slice 4563 0 0 2 none,.str [],.bool false,.int .i64 (.ofNat 3),.int .u8 (.ofNat 106),.str [76,68],.slice 4641 0 0 2 none,.str [],.bool false,.int .i64 (.ofNat 3),.int .u8 (.ofNat 107),.str [76,68],.slice 4719 0 0 2 none,.str [],.bool false,.int .i64 (.ofNat 3),.int .u8 (.ofNat 108),.str [76,68],.slice 4797 0 0 2 none,.str [],.bool false,.int .i64 (.ofNat 3),.int .u8 (.ofNat 109),.str [76,68],.slice 4875 0 0 2 none,.str [],.bool false,.int .i64 (.ofNat 3),.int .u8 (.ofNat 110),.str [76,68],.slice 4954 0 0 2 none,.str [100],.bool false,.int .i64 (.ofNat 3),.int .u8 (.ofNat 111),.str [76,68],.slice 5030 0 0 2 none,.str [],.bool false,.int .i64 (.ofNat 3),.int .u8 (.ofNat 112),.str [76,68],.slice 5109 0 0 2 none,.str [100],.bool false,.int .i64 (.ofNat 3),.int .u8 (.ofNat 113),.str [76,68],.slice 5188 0 0 2 none,.str [100],.bool false,.int .i64 (.ofNat 3),.int .u8 (.ofNat 114),.str [76,68],.slice 5265 0 0 2 none,.str [100],.bool false,.int .i64 (.ofNat 3),.int .u8 (.ofNat 115),.str [76,68],.slice 5342 0 0 2 none,.str [100],.bool false,.int .i64 (.ofNat 3),.int .u8 (.ofNat 116),.str [76,68],.slice 5419 0 0 2 none,.str [100],.bool false,.int .i64 (.ofNat 3),.int .u8 (.ofNat 117),.str [76,68],.slice 5496 0 0 2 none,.str [100],.bool false,.int .i64 (.ofNat 3),.int .u8 (.ofNat 119),.str [76,68],.slice 5580 0 0 2 none,.str [100],.bool false,.int .i64 (.ofNat 3),.int .u8 (.ofNat 124),.str [76,68],.slice 5962 0 0 2 none,.str [],.bool false,.int .i64 (.ofNat 3),.int .u8 (.ofNat 125),.str [76,68],.slice 6040 0 0 2 none,.str [],.bool false,.int .i64 (.ofNat 3),.int .u8 (.ofNat 126),.str [76,68],.slice 6119 0 0 2 none,.str [100],.bool false,.int .i64 (.ofNat 3),.int .u8 (.ofNat 249),.str [76,68],.slice 6384 0 0 2 none,.str [],.bool false] 49 (some 6)),(6384,.cells [.int .i64 (.ofNat 3),.int .i64 (.ofNat 3),.int .i64 (.ofNat 0),.int .i64 (.ofNat 3),.int .i64 (.ofNat 5),.int .i64 (.ofNat 0)] 65 (some 3)),(6119,.cells [.int .i64 (.ofNat 1),.int .i64 (.ofNat 7),.int .i64 (.ofNat 0),.int .i64 (.ofNat 5),.int .i64 (.ofNat 5),.int .i64 (.ofNat 0)] 65 (some 3)),(6040,.cells [.int .i64 (.ofNat 1),.int .i64 (.ofNat 7),.int .i64 (.ofNat 0),.int .i64 (.ofNat 2),.int .i64 (.ofNat 1),.int .i64 (.ofNat 0)] 65 (some 3)),(5962,.cells [.int .i64 (.ofNat 1),.int .i64 (.ofNat 7),.int .i64 (.ofNat 0),.int .i64 (.ofNat 2),.int .i64 (.ofNat 0),.int .i64 (.ofNat 0)] 65 (some 3)),(5580,.cells [.int .i64 (.ofNat 5),.int .i64 (.ofNat 5),.int .i64 (.ofNat 0),.int .i64 (.ofNat 1),.int .i64 (.ofNat 7),.int .i64 (.ofNat 0)] 65 (some 3)),(5496,.cells [.int .i64 (.ofNat 5),.int .i64 (.ofNat 5),.int .i64 (.ofNat 0),.int .i64 (.ofNat 1),.int .i64 (.ofNat 5),.int .i64 (.ofNat 0)] 65 (some 3)),(5419,.cells [.int .i64 (.ofNat 5),.int .i64 (.ofNat 5),.int .i64 (.ofNat 0),.int .i64 (.ofNat 1),.int .i64 (.ofNat 4),.int .i64 (.ofNat 0)] 65 (some 3)),(5342,.cells [.int .i64 (.ofNat 5),.int .i64 (.ofNat 5),.int .i64 (.ofNat 0),.int .i64 (.ofNat 1),.int .i64 (.ofNat 3),.int .i64 (.ofNat 0)] 65 (some 3)),(5265,.cells [.int .i64 (.ofNat 5),.int .i64 (.ofNat 5),.int .i64 (.ofNat 0),.int .i64 (.ofNat 1),.int .i64 (.ofNat 2),.int .i64 (.ofNat 0)] 65 (some 3)),(5188,.cells [.int .i64 (.ofNat 5),.int .i64 (.ofNat 5),.int .i64 (.ofNat 0),.int .i64 (.ofNat 1),.int .i64 (.ofNat 1),.int .i64 (.ofNat 0)] 65 (some 3)),(5109,.cells [.int .i64 (.ofNat 5),.int .i64 (.ofNat 5),.int .i64 (.ofNat 0),.int .i64 (.ofNat 1),.int .i64 (.ofNat 0),.int .i64 (.ofNat 0)] 65 (some 3)),(5030,.cells [.int .i64 (.ofNat 2),.int .i64 (.ofNat 1),.int .i64 (.ofNat 0),.int .i64 (.ofNat 1),.int .i64 (.ofNat 7),.int .i64 (.ofNat 0)] 65 (some 3)),(4954,.cells [.int .i64 (.ofNat 1),.int .i64 (.ofNat 5),.int .i64 (.ofNat 0),.int .i64 (.ofNat 5),.int .i64 (.ofNat 5),.int .i64 (.ofNat 0)] 65 (some 3)),(4875,.cells [.int .i64 (.ofNat 2),.int .i64 (.ofNat 1),.int .i64 (.ofNat 0),.int .i64 (.ofNat 2),.int .i64 (.ofNat 1),.int .i64 (.ofNat 0)] 65 (some 3)),(4797,.cells [.int .i64 (.ofNat 2),.int .i64 (.ofNat 1),.int .i64 (.ofNat 0),.int .i64 (.ofNat 2),.int .i64 (.ofNat 0),.int .i64 (.ofNat 0)] 65 (some 3)),(4719,.cells [.int .i64 (.ofNat 2),.int .i64 (.ofNat 1),.int .i64 (.ofNat 0),.int .i64 (.ofNat 1),.int .i64 (.ofNat 3),.int .i64 (.ofNat 0)] 65 (some 3)),(4641,.cells [.int .i64 (.ofNat 2),.int .i64 (.ofNat 1),.int .i64 (.ofNat 0),.int .i64 (.ofNat 1),.int .i64 (.ofNat 2),.int .i64 (.ofNat 0)] 65 (some 3)),(4563,.cells [.int .i64 (.ofNat 2),.int .i64 (.ofNat 1),.int .i64 (.ofNat 0),.int .i64 (.ofNat 1),.int .i64 (.ofNat 1),.int .i64 (.ofNat 0)] 65 (some 3)),(4483,.cells [.int .i64 (.ofNat 2),.int .i64 (.ofNat 1),.int .i64 (.ofNat 0),.int .i64 (.ofNat 1),.int .i64 (.ofNat 0),.int .i64 (.ofNat 0)] 65 (some 3)),(4405,.cells [.int .i64 (.ofNat 2),.int .i64 (.ofNat 0),.int .i64 (.ofNat 0),.int .i64 (.ofNat 1),.int .i64 (.ofNat 7),.int .i64 (.ofNat 0)] 65 (some 3)),(4329,.cells [.int .i64 (.ofNat 1),.int .i64 (.ofNat 4),.int .i64 (.ofNat 0),.int .i64 (.ofNat 5),.int .i64 (.ofNat 5),.int .i64 (.ofNat 0)] 65 (some 3)),(4250,.cells [.int .i64 (.ofNat 2),.int .i64 (.ofNat 0),.int .i64 (.ofNat 0),.int .i64 (.ofNat 2),.int .i64 (.ofNat 1),.int .i64 (.ofNat 0)] 65 (some 3)),(4172,.cells [.int .i64 (.ofNat 2),.int .i64 (.ofNat 0),.int .i64 (.ofNat 0),.int .i64 (.ofNat 2),.int .i64 (.ofNat 0),.int .i64 (.ofNat 0)] 65 (some 3)),(4094,.cells [.int .i64 (.ofNat 2),.int .i64 (.ofNat 0),.int .i64 (.ofNat 0),.int .i64 (.ofNat 1),.int .i64 (.ofNat 3),.int .i64 (.ofNat 0)] 65 (some 3)),(4016,.cells [.int .i64 (.ofNat 2),.int .i64 (.ofNat 0),.int .i64 (.ofNat 0),.int .i64 (.ofNat 1),.int .i64 (.ofNat 2),.int .i64 (.ofNat 0)] 65 (some 3)),(3938,.cells [.int .i64 (.ofNat 2),.int .i64 (.ofNat 0),.int .i64 (.ofNat 0),.int .i64 (.ofNat 1),.int .i64 (.ofNat 1),.int .i64 (.ofNat 0)] 65 (some 3)),(3858,.cells [.int .i64 (.ofNat 2),.int .i64 (.ofNat 0),.int .i64 (.ofNat 0),.int .i64 (.ofNat 1),.int .i64 (.ofNat 0),.int .i64 (.ofNat 0)] 65 (some 3)),(3706,.cells [.int .i64 (.ofNat 1),.int .i64 (.ofNat 3),.int .i64 (.ofNat 0),.int .i64 (.ofNat 5),.int .i64 (.ofNat 5),.int .i64 (.ofNat 0)] 65 (some 3)),(3627,.cells [.int .i64 (.ofNat 1),.int .i64 (.ofNat 3),.int .i64 (.ofNat 0),.int .i64 (.ofNat 2),.int .i64 (.ofNat 1),.int .i64 (.ofNat 0)] 65 (some 3)),(3549,.cells [.int .i64 (.ofNat 1),.int .i64 (.ofNat 3),.int .i64 (.ofNat 0),.int .i64 (.ofNat 2),.int .i64 (.ofNat 0),.int .i64 (.ofNat 0)] 65 (some 3)),(3091,.cells [.int .i64 (.ofNat 1),.int .i64 (.ofNat 2),.int .i64 (.ofNat 0),.int .i64 (.ofNat 5),.int .i64 (.ofNat 5),.int .i64 (.ofNat 0)] 65 (some 3)),(3012,.cells [.int .i64 (.ofNat 1),.int .i64 (.ofNat 2),.int .i64 (.ofNat 0),.int .i64 (.ofNat 2),.int .i64 (.ofNat 1),.int .i64 (.ofNat 0)] 65 (some 3)),(2934,.cells [.int .i64 (.ofNat 1),.int .i64 (.ofNat 2),.int .i64 (.ofNat 0),.int .i64 (.ofNat 2),.int .i64 (.ofNat 0),.int .i64 (.ofNat 0)] 65 (some 3)),(2474,.cells [.int .i64 (.ofNat 1),.int .i64 (.ofNat 1),.int .i64 (.ofNat 0),.int .i64 (.ofNat 5),.int .i64 (.ofNat 5),.int .i64 (.ofNat 0)] 65 (some 3)),(2393,.cells [.int .i64 (.ofNat 1),.int .i64 (.ofNat 1),.int .i64 (.ofNat 0),.int .i64 (.ofNat 2),.int .i64 (.ofNat 1),.int .i64 (.ofNat 0)] 65 (some 3)),(2313,.cells [.int .i64 (.ofNat 1),.int .i64 (.ofNat 1),.int .i64 (.ofNat 0),.int .i64 (.ofNat 2),.int .i64 (.ofNat 0),.int .i64 (.ofNat 0)] 65 (some 3)),(1845,.cells [.int .i64 (.ofNat 1),.int .i64 (.ofNat 0),.int .i64 (.ofNat 0),.int .i64 (.ofNat 5),.int .i64 (.ofNat 5),.int .i64 (.ofNat 0)] 65 (some 3)),(1766,.cells [.int .i64 (.ofNat 1),.int .i64 (.ofNat 0),.int .i64 (.ofNat 0),.int .i64 (.ofNat 2),.int .i64 (.ofNat 1),.int .i64 (.ofNat 0)] 65 (some 3)),(1688,.cells [.int .i64 (.ofNat 1),.int .i64 (.ofNat 0),.int .i64 (.ofNat 0),.int .i64 (.ofNat 2),.int .i64 (.ofNat 0),.int .i64 (.ofNat 0)] 65 (some 3)),(1183,.cells [.int .i64 (.ofNat 5),.int .i64 (.ofNat 5),.int .i64 (.ofNat 0),.int .i64 (.ofNat 6),.int .i64 (.ofNat 0),.int .i64 (.ofNat 0)] 65 (some 3)),(999,.cells [.int .i64 (.ofNat 2),.int .i64 (.ofNat 1),.int .i64 (.ofNat 0),.int .i64 (.ofNat 6),.int .i64 (.ofNat 0),.int .i64 (.ofNat 0)] 65 (some 3)),(934,.cells [.int .i64 (.ofNat 3),.int .i64 (.ofNat 5),.int .i64 (.ofNat 0),.int .i64 (.ofNat 7),.int .i64 (.ofNat 0),.int .i64 (.ofNat 0)] 65 (some 3)),(875,.cells [.int .i64 (.ofNat 2),.int .i64 (.ofNat 0),.int .i64 (.ofNat 0),.int .i64 (.ofNat 6),.int .i64 (.ofNat 0),.int .i64 (.ofNat 0)] 65 (some 3)),(810,.cells [.int .i64 (.ofNat 7),.int .i64 (.ofNat 0),.int .i64 (.ofNat 0),.int .i64 (.ofNat 3),.int .i64 (.ofNat 5),.int .i64 (.ofNat 0)] 65 (some 3)),(754,.cells [.int .i64 (.ofNat 3),.int .i64 (.ofNat 5),.int .i64 (.ofNat 0),.int .i64 (.ofNat 6),.int .i64 (.ofNat 0),.int .i64 (.ofNat 0)] 65 (some 3)),(0,.cells [.int .i64 (.ofNat 3),.int .i64 (.ofNat 5)] 3 none)])
def amS:EF:=([74,82],[.int .i64 (.ofNat 0),.int .i64 (.ofNat 1),.int .i64 (.ofNat 2)],3,.slice 240 0 0 5 none,962,[(240,.cells [.int .i64 (.ofNat 0),.int .u8 (.ofNat 24),.str [74,82],.slice 61 0 0 1 none,.str [101],.bool false,.int .i64 (.ofNat 0),.int .u8 (.ofNat 32),.str [74,82],.slice 105 0 0 2 none,.str [101],.bool false,.int .i64 (.ofNat 0),.int .u8 (.ofNat 40),.str [74,82],.slice 149 0 0 2 none,.str [101],.bool false,.int .i64 (.ofNat 0),.int .u8 (.ofNat 48),.str [74,82],.slice 193 0 0 2 none,.str [101],.bool false,.int .i64 (.ofNat 0),.int .u8 (.ofNat 56),.str [74,82],.slice 237 0 0 2 none,.str [101],.bool false] 49 (some 6)),(237,.cells [.int .i64 (.ofNat 8),.int .i64 (.ofNat 3),.int .i64 (.ofNat 0),.int .i64 (.ofNat 10),.int .i64 (.ofNat 0),.int .i64 (.ofNat 0)] 65 (some 3)),(193,.cells [.int .i64 (.ofNat 8),.int .i64 (.ofNat 2),.int .i64 (.ofNat 0),.int .i64 (.ofNat 10),.int .i64 (.ofNat 0),.int .i64 (.ofNat 0)] 65 (some 3)),(149,.cells [.int .i64 (.ofNat 8),.int .i64 (.ofNat 1),.int .i64 (.ofNat 0),.int .i64 (.ofNat 10),.int .i64 (.ofNat 0),.int .i64 (.ofNat 0)] 65 (some 3)),(105,.cells [.int .i64 (.ofNat 8),.int .i64 (.ofNat 0),.int .i64 (.ofNat 0),.int .i64 (.ofNat 10),.int .i64 (.ofNat 0),.int .i64 (.ofNat 0)] 65 (some 3)),(61,.cells [.int .i64 (.ofNat 10),.int .i64 (.ofNat 0),.int .i64 (.ofNat 0)] 65 (some 3)),(0,.cells [.int .i64 (.ofNat 0),.int .i64 (.ofNat 1),.int .i64 (.ofNat 2)] 3 none)])
theorem avy (r n:Int):SL EN 67 r n [1,2,3,4,5]=true:=by kernel_rfl
theorem avx (r n:Int):SL EN 67 r n [6,7,8,9,10]=true:=by kernel_rfl
theorem apQ (k r n:Int):SK EN 67 k r n (.negSucc 9223372036854775807) (.ofNat 0)=some false:=by kernel_rfl
theorem apR (k r n:Int):SK EN 67 k r n (.ofNat 11) (.ofNat 9223372036854775807)=some false:=by kernel_rfl
theorem avw (r n:Int):SL EN 41 r n [1,2,3,4,5]=true:=by kernel_rfl
theorem avv (r n:Int):SL EN 41 r n [6,7,8,9,10]=true:=by kernel_rfl
theorem apO (k r n:Int):SK EN 41 k r n (.negSucc 9223372036854775807) (.ofNat 0)=some false:=by kernel_rfl
theorem apP (k r n:Int):SK EN 41 k r n (.ofNat 11) (.ofNat 9223372036854775807)=some false:=by kernel_rfl
def mQ (o:ay):Prop:=(loI≤o.1∧o.1≤hiI)∧(loI≤o.2.1∧o.2.1≤hiI)∧(loI≤o.2.2∧o.2.2≤hiI)
theorem nz:loI= -9223372036854775808:=rfl
theorem nD:hiI=9223372036854775807:=rfl
def qz (r:Int):Nat:=if r < 0 then 9 else if 8 < r then 10 else r.toNat
def wZ (k:Nat)(n:Int):Nat:=if n < (C8 k).1.1 then 0 else if (C8 k).1.2 < n then 2 else 1
theorem afW (r:Int):qz r≤10:=by
 unfold qz
 split
 ·omega
 ·split <;> omega
theorem agw (k:Nat)(n:Int):wZ k n≤2:=by
 unfold wZ
 split
 ·omega
 ·split <;> omega
theorem Le {lo hi x:Int}(h1:lo≤x)(h2:x≤hi):iZ [(lo,hi,true)] x:=fun f hf=>by
 obtain rfl:=List.mem_singleton.1 hf
 simp[h1,h2]
theorem afX {r:Int}(h:loI≤r∧r≤hiI):(afY (qz r) r).ok 0∧cv iy (afY (qz r) r)= .int .i64 r:=by
 rw[nz,nD] at h
 unfold qz
 by_cases h1:r < 0
 ·rw[if_pos h1]
  exact⟨Le (lo:=.negSucc 9223372036854775807) (hi:=.negSucc 0) (by omega) (by omega),rfl⟩
 ·rw[if_neg h1]
  by_cases h2:8 < r
  ·rw[if_pos h2]
   exact⟨Le (lo:=.ofNat 9) (hi:=.ofNat 9223372036854775807) (by show (9:Int)≤r;omega) (by show r≤(9223372036854775807:Int);omega),rfl⟩
  ·rw[if_neg h2]
   have h3:Nat.blt r.toNat 9=true:=by rw[Nat.blt_eq];omega
   unfold afY
   rw[h3]
   refine⟨trivial,?_⟩
   show Value.int .i64 (r.toNat:Int)=_
   rw[Int.toNat_of_nonneg (by omega)]
theorem Zh (k:Nat):(C8 k).2.1=(C8 k).1.1 - 1∧(C8 k).2.2=(C8 k).1.2+1:=by
 unfold C8
 split <;> exact⟨rfl,rfl⟩
theorem agx {k:Nat}{n:Int}(h:loI≤n∧n≤hiI):(amP k (wZ k n) n).ok 0∧cv iy (amP k (wZ k n) n)= .int .i64 n:=by
 rw[nz,nD] at h
 obtain⟨e1,e2⟩:=Zh k
 unfold wZ
 by_cases h1:n < (C8 k).1.1
 ·rw[if_pos h1]
  exact⟨Le (lo:=.negSucc 9223372036854775807) (by omega) (by rw[e1];omega),rfl⟩
 ·rw[if_neg h1]
  by_cases h2:(C8 k).1.2 < n
  ·rw[if_pos h2]
   exact⟨Le (hi:=.ofNat 9223372036854775807) (by rw[e2];omega) (by show n≤(9223372036854775807:Int);omega),rfl⟩
  ·rw[if_neg h2]
   exact⟨Le (by omega) (by omega),rfl⟩
theorem xu {j:Nat}:∀{l:List Nat},M5 j l=true↔j∈l
 |[]=>by simp[M5]
 |x::l=>by
  unfold M5
  cases h:Nat.beq j x with
  |true=>simp[(beq_iff _ _).1 h]
  |false=>
   have hne:j≠x:=fun e=>by rw[(beq_iff _ _).2 e] at h;cases h
   simp only[cond_false,List.mem_cons,hne,false_or]
   exact xu
theorem Zm {r:Int}{l:List Nat}(hl:∀x∈l,x < 9):M5 (qz r) l=(l.map fun (x:Nat)=>(x:Int)).contains r:=by
 rw[Bool.eq_iff_iff,xu,List.contains_iff_mem,List.mem_map]
 unfold qz
 constructor
 ·intro h
  by_cases h1:r < 0
  ·rw[if_pos h1] at h;have:=hl _ h;omega
  ·rw[if_neg h1] at h
   by_cases h2:8 < r
   ·rw[if_pos h2] at h;have:=hl _ h;omega
   ·rw[if_neg h2] at h
    exact⟨_,h,Int.toNat_of_nonneg (by omega)⟩
 ·rintro ⟨x,hx,rfl⟩
  have:=hl x hx
  rw[if_neg (by omega),if_neg (by omega)]
  simpa using hx
theorem Bg {k:Nat}(h1:1≤k)(h2:k≤10)(r n:Int):okC k (qz r) (wZ k n)=bz ((k:Int),r,n):=by
 have key:uB (k:Int)=some ((ng k).map (fun (x:Nat)=>(x:Int)),(C8 k).1.1,(C8 k).1.2)∧∀x∈ng k,x < 9:=by
  rcases (show k=1∨k=2∨k=3∨k=4∨k=5∨k=6∨k=7∨k=8∨k=9∨k=10 by omega) with rfl | rfl | rfl | rfl | rfl | rfl | rfl | rfl | rfl | rfl <;> exact⟨rfl,by decide⟩
 unfold okC bz
 rw[key.1,Zm key.2]
 dsimp only
 have hn:Nat.beq (wZ k n) 1=(decide ((C8 k).1.1≤n) && decide (n≤(C8 k).1.2)):=by
  unfold wZ
  by_cases h1:n < (C8 k).1.1
  ·rw[if_pos h1,decide_eq_false (by omega)]
   rfl
  ·rw[if_neg h1,decide_eq_true (by omega)]
   by_cases h2:(C8 k).1.2 < n
   ·rw[if_pos h2,decide_eq_false (by omega)]
    rfl
   ·rw[if_neg h2,decide_eq_true (by omega)]
    rfl
 rw[hn]
 cases ((ng k).map fun (x:Nat)=>(x:Int)).contains r <;> rfl
theorem EY {S:ag}(hS:ah Tryz.prog S){g:Nat}(h1:∀r n,SL S g r n [1,2,3,4,5]=true)(h2:∀r n,SL S g r n [6,7,8,9,10]=true)(h3:∀k r n,SK S g k r n (.negSucc 9223372036854775807) (.ofNat 0)=some false)(h4:∀k r n,SK S g k r n (.ofNat 11) (.ofNat 9223372036854775807)=some false)
 (o:ay) (ho:mQ o) (w:World) (hG:gJ w):Calls Tryz.prog g #[.agg #[.int .i64 o.1,.int .i64 o.2.1,.int .i64 o.2.2]] w fun e w'=>e= .returned (.bool (bz o))∧Below w.heap.size w w':=by
 obtain⟨k,r,n⟩:=o
 obtain⟨hk,hr,hn⟩:=ho
 dsimp only at hk hr hn ⊢
 have hk':=hk
 rw[nz,nD] at hk'
 have hC:=bD gN hS
 by_cases hlo:k≤0
 ·have hv:bz (k,r,n)=false:=by
   have:uB k=none:=by
    unfold uB
    split <;> first | rfl | omega
   simp[bz,this]
  rw[hv]
  exact oO hC (h3 k r n) ⟨⟨Le (by omega) (by show k≤(0:Int);omega),trivial,trivial,trivial⟩,trivial⟩ w hG
 ·by_cases hhi:10 < k
  ·have hv:bz (k,r,n)=false:=by
    have:uB k=none:=by
     unfold uB
     split <;> first | rfl | omega
    simp[bz,this]
   rw[hv]
   exact oO hC (h4 k r n) ⟨⟨Le (by show (11:Int)≤k;omega) (by show k≤(9223372036854775807:Int);omega),trivial,trivial,trivial⟩,trivial⟩ w hG
  ·obtain⟨k',rfl⟩:∃k':Nat,k=(k':Int):=⟨k.toNat,by omega⟩
   have a1:1≤k':=by omega
   have a2:k'≤10:=by omega
   have hb:bq (apS S g k' (qz r) (wZ k' n) r n) (okC k' (qz r) (wZ k' n))=true:=by
    have hj:qz r∈[0,1,2,3,4,5,6,7,8,9,10]:=by
     have:=afW r
     simp;omega
    have hc:wZ k' n∈[0,1,2]:=by
     have:=agw k' n
     simp;omega
    by_cases h5:k'≤5
    ·exact dZ (dZ (dZ (h1 r n) (show k'∈[1,2,3,4,5] by simp;omega)) hj) hc
    ·exact dZ (dZ (dZ (h2 r n) (show k'∈[6,7,8,9,10] by simp;omega)) hj) hc
   have hq:=aiS hb
   rw[Bg a1 a2] at hq
   obtain⟨r1,r2⟩:=afX hr
   obtain⟨n1,n2⟩:=agx (k:=k') hn
   have:=oO hC hq ⟨⟨trivial,r1,n1,trivial⟩,trivial⟩ w hG
   simp only[aG,cv,r2,n2] at this
   exact this
theorem afn (o:ay)(ho:mQ o)(w:World)(hG:gJ w):Calls Tryz.prog 67 #[.agg #[.int .i64 o.1,.int .i64 o.2.1,.int .i64 o.2.2]] w fun e w'=>e= .returned (.bool (bz o))∧Below w.heap.size w w':=
 EY mg avy avx apQ apR o ho w hG
theorem afm (o:ay)(ho:mQ o)(w:World)(hG:gJ w):Calls Tryz.prog 41 #[.agg #[.int .i64 o.1,.int .i64 o.2.1,.int .i64 o.2.2]] w fun e w'=>e= .returned (.bool (bz o))∧Below w.heap.size w w':=
 EY mg avw avv apO apP o ho w hG
end Go.Proofs.YtceaodnohnekkaaGreatDoor.Ex
namespace Go.Proofs.YtceaodnohnekkaaGreatDoor
def aY (o:ay):ay:=(o.1,o.2.1,0)
def dC (l:List ay)(k:Nat):Int:=match l[k]? with
 |some o=>o.2.2
 |none=>0
def fO (l:List ay)(k:Nat)(z:Int):List ay:=match l[k]? with
 |some o=>l.set k (o.1,o.2.1,z)
 |none=>l
def qU (lo hi z:Int):Bool:=decide (lo≤z) && decide (z≤hi)
abbrev Vr:=Nat×Int×Int
def takeN (v:Option Vr)(l:List ay):Int:=match v with
 |none=>0
 |some v=>dC l v.1
def takeB (v:Option Vr)(l:List ay):Bool:=match v with
 |none=>true
 |some v=>qU v.2.1 v.2.2 (dC l v.1)
def eT (v:Option Vr)(l:List ay):List ay:=match v with
 |none=>l
 |some v=>cond (qU v.2.1 v.2.2 (dC l v.1)) (fO l v.1 0) l
def nE (vd vn:Option Vr)(le lc:List ay):Bool:=takeB vd lc && (takeB vn (eT vd lc) && decide (eT vn (eT vd lc)=le))
def o9 (v:Option Vr)(l:List ay)(z:Int):List ay:=match v with
 |none=>l
 |some v=>fO l v.1 z
def mr (vd vn:Option Vr)(le:List ay)(d n:Int):List ay:=o9 vn (o9 vd le d) n
theorem uq (l:List ay)(k:Nat)(z:Int):(fO l k z).length=l.length:=by
 unfold fO
 split
 ·rw[List.length_set]
 ·rfl
theorem cK (l:List ay)(k:Nat)(z:Int)(j:Nat):(fO l k z)[j]? =if j=k then (l[j]?).map (fun o=>(o.1,o.2.1,z)) else l[j]?:=by
 unfold fO
 split
 ·rename_i o ho
  rw[List.getElem?_set]
  by_cases h:j=k
  ·subst h
   rw[if_pos rfl,if_pos rfl,if_pos (List.getElem?_eq_some_iff.1 ho).1,ho]
   rfl
  ·rw[if_neg (Ne.symm h),if_neg h]
 ·rename_i hn
  by_cases h:j=k
  ·subst h
   rw[if_pos rfl,hn]
   rfl
  ·rw[if_neg h]
theorem xc (l:List ay)(k:Nat)(z:Int)(j:Nat)(h:j≠k):dC (fO l k z) j=dC l j:=by
 unfold dC
 rw[cK,if_neg h]
theorem r9 {le lc:List ay}(h:le.map aY=lc.map aY):le.length=lc.length:=by
 have:=congrArg List.length h
 simpa using this
theorem Az {le lc:List ay}(h:le.map aY=lc.map aY)(j:Nat):(le[j]?).map aY=(lc[j]?).map aY:=by
 rw[← List.getElem?_map,← List.getElem?_map,h]
def vOk (le:List ay)(v:Option Vr):Prop:=∀x,v=some x→x.1 < le.length∧dC le x.1=0
theorem Vl {vd vn:Option Vr}{le lc:List ay}(_:le.map aY=lc.map aY)(hd:vOk le vd)(hn:vOk le vn)(hne:∀x y,vd=some x→vn=some y→x.1≠y.1)(h:nE vd vn le lc=true):
 mr vd vn le (takeN vd lc) (takeN vn (eT vd lc))=lc:=by
 unfold nE at h
 simp only[Bool.and_eq_true,decide_eq_true_eq] at h
 obtain⟨h1,h2,h3⟩:=h
 have key:∀(l:List ay) (k:Nat),fO (fO l k 0) k (dC l k)=l:=fun l k=>by
  apply List.ext_getElem?
  intro j
  rw[cK,cK]
  by_cases hj:j=k
  ·subst hj
   rw[if_pos rfl,if_pos rfl]
   unfold dC
   cases l[j]? <;> rfl
  ·rw[if_neg hj,if_neg hj]
 cases vd with
 |none=>
  cases vn with
  |none=>exact h3.symm
  |some y=>
   have h2:qU y.2.1 y.2.2 (dC lc y.1)=true:=h2
   have h3:cond (qU y.2.1 y.2.2 (dC lc y.1)) (fO lc y.1 0) lc=le:=h3
   rw[h2,cond_true] at h3
   show fO le y.1 (dC lc y.1)=lc
   rw[← h3,key]
 |some x=>
  have h1:qU x.2.1 x.2.2 (dC lc x.1)=true:=h1
  have e1:eT (some x) lc=fO lc x.1 0:=by
   show cond (qU x.2.1 x.2.2 (dC lc x.1)) (fO lc x.1 0) lc=_
   rw[h1,cond_true]
  rw[e1] at h2 h3 ⊢
  cases vn with
  |none=>
   have h3:fO lc x.1 0=le:=h3
   show fO le x.1 (dC lc x.1)=lc
   rw[← h3,key]
  |some y=>
   have hxy:=hne x y rfl rfl
   have h2:qU y.2.1 y.2.2 (dC (fO lc x.1 0) y.1)=true:=h2
   have h3:cond (qU y.2.1 y.2.2 (dC (fO lc x.1 0) y.1)) (fO (fO lc x.1 0) y.1 0) (fO lc x.1 0)=le:=h3
   rw[h2,cond_true] at h3
   show fO (fO le x.1 (dC lc x.1)) y.1 (dC (fO lc x.1 0) y.1)=lc
   rw[xc _ _ _ _ (Ne.symm hxy),← h3]
   apply List.ext_getElem?
   intro j
   rw[cK,cK,cK,cK]
   by_cases hj:j=y.1
   ·subst hj
    rw[if_pos rfl,if_neg (Ne.symm hxy),if_pos rfl,if_neg (Ne.symm hxy)]
    unfold dC
    cases lc[y.1]? <;> rfl
   ·by_cases hj':j=x.1
    ·subst hj'
     rw[if_neg hj,if_pos rfl,if_neg hj,if_pos rfl]
     unfold dC
     cases lc[x.1]? <;> rfl
    ·rw[if_neg hj,if_neg hj',if_neg hj,if_neg hj']
def qx (vd vn:Option Vr)(k:Nat):Option (Int×Int):=match vd with
 |some x=>if x.1=k then some x.2 else (match vn with
  |some y=>if y.1=k then some y.2 else none
  |none=>none)
 |none=>match vn with
  |some y=>if y.1=k then some y.2 else none
  |none=>none
def acg (vd vn:Option Vr)(le lc:List ay):Prop:=∀k o,lc[k]? =some o→match qx vd vn k with
 |some r=>qU r.1 r.2 o.2.2=true
 |none=>o.2.2=dC le k
theorem bJ {l:List ay}{k:Nat}{o:ay}(h:l[k]? =some o):dC l k=o.2.2:=by
 unfold dC
 rw[h]
theorem Xk {a b:ay}(h:aY a=aY b)(hn:a.2.2=b.2.2):a=b:=by
 obtain⟨a0,a1,a2⟩:=a
 obtain⟨b0,b1,b2⟩:=b
 simp only[aY,Prod.mk.injEq] at h
 simp only at hn
 rw[h.1,h.2.1,hn]
theorem acd {vd vn:Option Vr}{le lc:List ay}(hs:le.map aY=lc.map aY)(hd:vOk le vd)(hn:vOk le vn)(hne:∀x y,vd=some x→vn=some y→x.1≠y.1):nE vd vn le lc=true↔acg vd vn le lc:=by
 have hlen:=r9 hs
 have Cy:∀{k:Nat},k < le.length→∃o,lc[k]? =some o:=fun hk=>⟨_,List.getElem?_eq_getElem (by omega)⟩
 have step:∀(l:List ay),(∀j,(l[j]?).map aY=(lc[j]?).map aY)→(∀(j:Nat) (o e:ay),l[j]? =some o→le[j]? =some e→o.2.2=e.2.2)→l=le:=fun l h1 h2=>by
  apply List.ext_getElem?
  intro j
  have h3:=h1 j
  rw[← Az hs j] at h3
  cases hl:l[j]? with
  |none=>
   rw[hl] at h3
   cases he:le[j]? with
   |none=>rfl
   |some e=>rw[he] at h3;cases h3
  |some o=>
   rw[hl] at h3
   cases he:le[j]? with
   |none=>rw[he] at h3;cases h3
   |some e=>
    rw[he] at h3
    rw[Xk (Option.some.inj h3) (h2 j o e hl he)]
 have afM:∀(l:List ay) (k:Nat),(∀j,(l[j]?).map aY=(lc[j]?).map aY)→∀j,((fO l k 0)[j]?).map aY=(lc[j]?).map aY:=fun l k h j=>by
  rw[cK]
  split
  ·rename_i e
   rw[← h j,Option.map_map]
   cases l[j]? <;> rfl
  ·exact h j
 unfold nE acg
 simp only[Bool.and_eq_true,decide_eq_true_eq]
 cases vd with
 |none=>
  cases vn with
  |none=>
   simp only[takeB,eT,qx,true_and]
   constructor
   ·rintro rfl k o hk
    exact (bJ hk).symm
   ·intro h
    exact step lc (fun _=>rfl) fun j o e ho he=>by rw[h j o ho,bJ he]
  |some y=>
   obtain⟨hy1,hy2⟩:=hn y rfl
   obtain⟨oy,hoy⟩:=Cy hy1
   simp only[takeB,eT,qx,true_and,bJ hoy]
   constructor
   ·rintro ⟨h1,h2⟩ k o hk
    rw[h1,cond_true] at h2
    by_cases hky:y.1=k
    ·subst hky
     rw[if_pos rfl]
     rw[hk] at hoy
     obtain rfl:=zx hoy
     exact h1
    ·rw[if_neg hky]
     have:(fO lc y.1 0)[k]? =some o:=by rw[cK,if_neg (Ne.symm hky),hk]
     rw[h2] at this
     exact (bJ this).symm
   ·intro h
    have h1:=h y.1 oy hoy
    rw[if_pos rfl] at h1
    refine⟨h1,?_⟩
    rw[h1,cond_true]
    refine step _ (afM lc y.1 fun _=>rfl) fun j o e ho he=>?_
    rw[cK] at ho
    split at ho
    ·rename_i ej
     subst ej
     rw[hoy] at ho
     obtain rfl:=zx ho
     rw[bJ he] at hy2
     exact hy2.symm
    ·rename_i ej
     have:=h j o ho
     rw[if_neg (Ne.symm ej)] at this
     rw[this,bJ he]
 |some x=>
  obtain⟨hx1,hx2⟩:=hd x rfl
  obtain⟨ox,hox⟩:=Cy hx1
  cases vn with
  |none=>
   simp only[takeB,eT,qx,true_and,bJ hox]
   constructor
   ·rintro ⟨h1,h2⟩ k o hk
    rw[h1,cond_true] at h2
    by_cases hky:x.1=k
    ·subst hky
     rw[if_pos rfl]
     rw[hk] at hox
     obtain rfl:=zx hox
     exact h1
    ·rw[if_neg hky]
     have:(fO lc x.1 0)[k]? =some o:=by rw[cK,if_neg (Ne.symm hky),hk]
     rw[h2] at this
     exact (bJ this).symm
   ·intro h
    have h1:=h x.1 ox hox
    rw[if_pos rfl] at h1
    refine⟨h1,?_⟩
    rw[h1,cond_true]
    refine step _ (afM lc x.1 fun _=>rfl) fun j o e ho he=>?_
    rw[cK] at ho
    split at ho
    ·rename_i ej
     subst ej
     rw[hox] at ho
     obtain rfl:=zx ho
     rw[bJ he] at hx2
     exact hx2.symm
    ·rename_i ej
     have:=h j o ho
     rw[if_neg (Ne.symm ej)] at this
     rw[this,bJ he]
  |some y=>
   have hxy:=hne x y rfl rfl
   obtain⟨hy1,hy2⟩:=hn y rfl
   obtain⟨oy,hoy⟩:=Cy hy1
   have ey:∀z,dC (fO lc x.1 z) y.1=oy.2.2:=fun z=>by rw[xc _ _ _ _ (Ne.symm hxy),bJ hoy]
   simp only[takeB,eT,qx,bJ hox]
   constructor
   ·rintro ⟨h1,h2,h3⟩ k o hk
    rw[h1,cond_true,ey] at h2
    rw[h1,cond_true,ey,h2,cond_true] at h3
    by_cases hkx:x.1=k
    ·subst hkx
     rw[if_pos rfl]
     rw[hk] at hox
     obtain rfl:=zx hox
     exact h1
    ·rw[if_neg hkx]
     by_cases hky:y.1=k
     ·subst hky
      rw[if_pos rfl]
      rw[hk] at hoy
      obtain rfl:=zx hoy
      exact h2
     ·rw[if_neg hky]
      have:(fO (fO lc x.1 0) y.1 0)[k]? =some o:=by rw[cK,if_neg (Ne.symm hky),cK,if_neg (Ne.symm hkx),hk]
      rw[h3] at this
      exact (bJ this).symm
   ·intro h
    have h1:=h x.1 ox hox
    rw[if_pos rfl] at h1
    have h2:=h y.1 oy hoy
    rw[if_neg hxy,if_pos rfl] at h2
    rw[h1,cond_true,ey]
    refine⟨rfl,h2,?_⟩
    rw[h2,cond_true]
    refine step _ (afM _ y.1 (afM lc x.1 fun _=>rfl)) fun j o e ho he=>?_
    rw[cK] at ho
    split at ho
    ·rename_i ej
     subst ej
     rw[cK,if_neg (Ne.symm hxy),hoy] at ho
     obtain rfl:=zx ho
     rw[bJ he] at hy2
     exact hy2.symm
    ·rename_i ej
     rw[cK] at ho
     split at ho
     ·rename_i ek
      subst ek
      rw[hox] at ho
      obtain rfl:=zx ho
      rw[bJ he] at hx2
      exact hx2.symm
     ·rename_i ek
      have:=h j o ho
      rw[if_neg (Ne.symm ek),if_neg (Ne.symm ej)] at this
      rw[this,bJ he]
def bU (nm:List Nat)(ws:List (List Nat)):Bool:=ws.any fun x=>decide (x=nm)
def jr:List (List Nat):=[[83,85,66],[65,78,68],[88,79,82],[79,82],[67,80]]
def mH:List (List Nat):=[[65,68,68],[65,68,67],[83,66,67]]
def zB:List (List Nat):=[[66,73,84],[82,69,83],[83,69,84],[73,77],[82,83,84],[79,85,84]]
def wJp:List (List Nat):=[[74,80],[67,65,76,76]]
def uC:List ay→Bool
 |o::_=>decide (o.1=3)
 |[]=>false
def dx (nm:List Nat)(l:List ay):Nat:=if bU nm zB then 0 else if bU nm wJp || (decide (nm=[76,68]) && uC l) then 2 else 1
def fC (nm:List Nat)(l:List ay):List ay:=
 match l with
 |[a,b]=>if bU nm jr && decide (a=(1,7,0)) then [b] else l
 |[b]=>if bU nm mH then [(1,7,0),b] else l
 |_=>l
def iW (nm:List Nat)(l:List ay):List ay:=if decide (nm=[69,88]) && decide (l=[(3,2,0),(3,1,0)]) then [(3,1,0),(3,2,0)] else l
def aK (nm:List Nat)(l:List ay):List ay:=(iW nm (fC nm l)).map (kv (dx nm (iW nm (fC nm l))))
theorem Kt (nm:List Nat)(l:List ay)(h:l.length≤3):(fC nm l).length≤3:=by
 unfold fC
 split
 ·split <;> simp
 ·split <;> simp
 ·exact h
theorem R6 (nm:List Nat)(l:List ay):(iW nm l).length=l.length:=by
 unfold iW
 split
 ·rename_i h
  simp only[Bool.and_eq_true,decide_eq_true_eq] at h
  rw[h.2]
  rfl
 ·rfl
theorem l5 (nm:List Nat)(l:List ay)(h:l.length≤3):(aK nm l).length≤3:=by
 unfold aK
 rw[List.length_map,R6]
 exact Kt nm l h
end Go.Proofs.YtceaodnohnekkaaGreatDoor
namespace Go.Proofs.YtceaodnohnekkaaGreatDoor.Ex
open Go.RowKit
def NW (f:Nat→aJ→Bool):Nat→List aJ→Bool
 |_,[]=>true
 |o,d::l=>cond (f o d) (NW f (o+1) l) false
def NY (f:Nat→aJ→Bool):Nat→List (List aJ)→Bool
 |_,[]=>true
 |o,c::l=>cond (NW f o c) (NY f (o+16) l) false
def allT (f:Nat→Nat→aJ→Bool):Nat→List (List (List aJ))→Bool
 |_,[]=>true
 |p,c::l=>cond (NY (f p) 0 c) (allT f (p+1) l) false
theorem Ko {f:Nat→aJ→Bool}:∀{l:List aJ} {o k:Nat} {d:aJ},NW f o l=true→eD l k=some d→f (o+k) d=true
 |[],_,_,_,_,hd=>by cases hd
 |e::l,o,k,d,h,hd=>by
  unfold NW at h
  cases h1:f o e with
  |false=>rw[h1] at h;cases h
  |true=>
  rw[h1] at h
  cases k with
  |zero=>obtain rfl:=zx hd;exact h1
  |succ k=>
   have:=Ko (show NW f (o+1) l=true from h) (show eD l k=some d from hd)
   rwa [show o+1+k=o+(k+1) by omega] at this
theorem Kr {f:Nat→aJ→Bool}:∀{l:List (List aJ)} {o k:Nat} {c:List aJ},NY f o l=true→eD l k=some c→NW f (o+16 * k) c=true
 |[],_,_,_,_,hd=>by cases hd
 |e::l,o,k,c,h,hd=>by
  unfold NY at h
  cases h1:NW f o e with
  |false=>rw[h1] at h;cases h
  |true=>
  rw[h1] at h
  cases k with
  |zero=>obtain rfl:=zx hd;exact h1
  |succ k=>
   have:=Kr (show NY f (o+16) l=true from h) (show eD l k=some c from hd)
   rwa [show o+16+16 * k=o+16 * (k+1) by omega] at this
theorem Kn {f:Nat→Nat→aJ→Bool}:∀{l:List (List (List aJ))} {p k:Nat} {c:List (List aJ)},allT f p l=true→eD l k=some c→NY (f (p+k)) 0 c=true
 |[],_,_,_,_,hd=>by cases hd
 |e::l,p,k,c,h,hd=>by
  unfold allT at h
  cases h1:NY (f p) 0 e with
  |false=>rw[h1] at h;cases h
  |true=>
  rw[h1] at h
  cases k with
  |zero=>obtain rfl:=zx hd;exact h1
  |succ k=>
   have:=Kn (show allT f (p+1) l=true from h) (show eD l k=some c from hd)
   rwa [show p+1+k=p+(k+1) by omega] at this
theorem gp {f:Nat→Nat→aJ→Bool}(h:allT f 0 Ga=true){p o:Nat}{d:aJ}(hd:gL p o=some d):f p o d=true:=by
 obtain⟨l,c,h1,h2,h3⟩:=rY hd
 have:=Ko (Kr (Kn h h1) h2) h3
 rwa [show 0+p=p by omega,show 0+16 * (o / 16)+o % 16=o by omega] at this
theorem UD:((List.range 7).all fun p=>(List.range 256).all fun o=>(gL p o).isSome)=true:=by kernel_rfl
theorem FZ {p o:Nat}(hp:p < 7)(ho:o < 256):∃d,gL p o=some d:=
 Option.isSome_iff_exists.1 (List.all_eq_true.1 (List.all_eq_true.1 UD p (List.mem_range.2 hp)) o (List.mem_range.2 ho))
theorem Em:∀(ks:List Nat) (i:Nat) (rs ns:Nat→Int),(lh i ks rs ns).length=3 * ks.length
 |[],_,_,_=>rfl
 |k::l,i,rs,ns=>by
  simp only[lh,List.length_cons,Em l]
  omega
theorem Ej (m:Nat):∀(ks:List Nat) (i:Nat) (rs ns:Nat→Int),oks m (lh i ks rs ns)
 |[],_,_,_=>trivial
 |_::l,i,rs,ns=>⟨trivial,trivial,trivial,Ej m l (i+1) rs ns⟩
theorem En (ρ ρ':Env):∀(ks:List Nat) (i:Nat) (rs ns:Nat→Int),aG ρ (lh i ks rs ns)=aG ρ' (lh i ks rs ns)
 |[],_,_,_=>rfl
 |_::l,i,rs,ns=>by
  simp only[lh,aG,rI,cv,En ρ ρ' l]
theorem Je (ρ ρ':Env)(d n:Int):∀ex:List Nat,aG ρ (uX d n ex)=aG ρ' (uX d n ex)
 |[]=>rfl
 |c::l=>by
  unfold uX
  cases Nat.beq c 100 <;> cases Nat.beq c 119 <;> simp only[cond_true,cond_false,aG,Ja,cv,Je ρ ρ' d n l]
theorem nL (ρ:Env):∀l m:List AV,aG ρ (ahp l m)=aG ρ l++aG ρ m
 |[],_=>rfl
 |x::l,m=>by simp only[ahp,aG,nL ρ l m,List.cons_append]
theorem vz (ρ:Env):∀l:List Nat,aG ρ (SS l)=l.map fun (c:Nat)=>Value.int .u8 (c:Int)
 |[]=>rfl
 |c::l=>by
  simp only[SS,aG,cv,vz ρ l,List.map_cons]
  rfl
theorem acw (ρ ρ':Env)(p:Nat)(o:Value)(ex:List Nat)(d n:Int):aG ρ (D5 p o ex d n)=aG ρ' (D5 p o ex d n):=by
 unfold D5
 rw[nL,nL,vz,vz]
 cases Nat.ble 5 p <;> simp only[cond_true,cond_false,aG,Ja,cv,Je ρ ρ' d n]
theorem Zk {ρ:Env}{w:World}{b:Nat}{vs:List AV}{e:TypeId}(h:(aF.cells vs e (some 1)).rep ρ w b):Rd w (fun _=>True) (some ⟨ρ.blk b,0,none⟩) (aG ρ vs)∧vs.length≤ρ.cap b:=by
 obtain⟨n,cur,hh,h2,h3,h4,h5,h6⟩:=h
 refine⟨fun _=>⟨_,rfl,trivial,fun j u hu=>?_⟩,by omega⟩
 have e:(⟨ρ.blk b,0,none⟩:Addr).add j=⟨ρ.blk b,j,none⟩:=by
  unfold Addr.add;split
  ·rename_i h;subst h;rfl
  ·simp
 rw[e]
 simp only[World.cell?,hh]
 have hj:j < (aG ρ vs).length:=(List.getElem?_eq_some_iff.1 hu).1
 rw[ak] at hj
 rw[← h6,List.getElem?_take,if_pos (by omega)] at hu
 simpa using hu
theorem lN {w0 w:World}(hG:gJ w0)(hb0:Below w0.heap.size w0 w){p:Nat}{nm ks ex:List Nat}{al:Bool}{o:Int}{rs ns:Nat→Int}{A:Option Addr}{c:Nat}(hA:eX w0.heap.size w A c (aG iy (lh 0 ks rs ns))){rd rn:Int×Int}{bd bn:Bool}{d n:Int}
 (hd:(decide (rd.1≤d) && decide (d≤rd.2))=bd) (hn:(decide (rn.1≤n) && decide (n≤rn.2))=bn) {vs:List AV} {r:Bool} (hvs:∀ρ,aG ρ vs=aG iy vs)
 (h:UA (ac6 p nm (lh 0 ks rs ns) ex (.bool al) (.int .u8 o) (sj rd bd) (sj rn bn) d n)=some (vs,r)):
 Calls Tryz.prog 17 #[.agg #[.int .i64 (p:Int),.int .u8 o,.string (aa nm),.slice A ks.length c,.string (aa ex),.bool al],.int .i64 d,.int .i64 n] w fun e w'=>∃A' c',
  e= .returned (.tuple #[.slice A' vs.length c',.bool r])∧vs.length≤c'∧Rd w' (fun _=>True) A' (aG iy vs)∧Below w.heap.size w w':=by
 unfold UA at h
 split at h
 case h_2=>cases h
 case h_1 sl r' W' hq=>
 split at h
 case h_2=>cases h
 case h_1 hm=>
 obtain⟨_,_,q3⟩:=bD gN mg _ _ _ _ _ hq
 have read:∀{ρ ρ':Env} {w':World},Post w0 ρ (Ew (lh 0 ks rs ns)) w ρ' W' w'→∃A' c',cv ρ' sl= .slice A' vs.length c'∧vs.length≤c'∧Rd w' (fun _=>True) A' (aG ρ' vs)∧r'=r:=fun {ρ ρ' w'} hP=>by
  split at h
  ·obtain⟨rfl,rfl⟩:=zw (zx h)
   exact⟨none,0,rfl,zu _,Rd.nil _ _ _,rfl⟩
  ·rename_i b m
   split at h
   ·rename_i vs' e' hb
    cases hmm:Nat.beq m vs'.length with
    |false=>rw[hmm] at h;cases h
    |true=>
     rw[hmm] at h
     obtain⟨rfl,rfl⟩:=zw (zx h)
     obtain⟨h1,h2⟩:=Zk (hP.rep.rep b _ hb)
     refine⟨_,_,?_,h2,h1,rfl⟩
     rw[(beq_iff _ _).1 hmm]
     rfl
   ·cases h
  ·cases h
 have hsy:∀{rr:Int×Int} {b:Bool} {z:Int},(decide (rr.1≤z) && decide (z≤rr.2))=b→iZ (sj rr b) z:=fun hz f hf=>by
  obtain rfl:=List.mem_singleton.1 hf
  exact hz
 have fin:∀(ρ:Env) (hW:aO w0 ρ (Ew (lh 0 ks rs ns)) w) (hok:(uP (lh 0 ks rs ns)).ok (Ew (lh 0 ks rs ns)).nx) (hv:cv ρ (uP (lh 0 ks rs ns))= .slice A ks.length c),
  Calls Tryz.prog 17 #[.agg #[.int .i64 (p:Int),.int .u8 o,.string (aa nm),.slice A ks.length c,.string (aa ex),.bool al],.int .i64 d,.int .i64 n] w fun e w'=>∃A' c',
  e= .returned (.tuple #[.slice A' vs.length c',.bool r])∧vs.length≤c'∧Rd w' (fun _=>True) A' (aG iy vs)∧Below w.heap.size w w':=fun ρ hW hok hv=>by
  have hc:=q3 w0 ρ w ⟨⟨trivial,trivial,trivial,hok,trivial,trivial,trivial⟩,hsy hd,hsy hn,trivial⟩ hW
  have ea:(aG ρ [.agg [.int .i64 (.ofNat p),.raw (.int .u8 o),.str nm,uP (lh 0 ks rs ns),.str ex,.raw (.bool al)],.sym (sj rd bd) d,.sym (sj rn bn) n]).toArray=#[.agg #[.int .i64 (p:Int),.int .u8 o,.string (aa nm),.slice A ks.length c,.string (aa ex),.bool al],.int .i64 d,.int .i64 n]:=by
   simp only[aG,cv,hv]
   rfl
  rw[ea] at hc
  refine hc.mono ?_
  rintro e w' ⟨ρ',rfl,hP,_⟩
  obtain⟨A',c',h1,h2,h3,rfl⟩:=read hP
  refine⟨A',c',?_,h2,by rw[← hvs ρ'];exact h3,hP.ib hm⟩
  simp only[cv,aG,h1]
 cases ks with
 |nil=>
  rcases hA with⟨_,rfl,rfl⟩ | ⟨h0,_⟩
  ·exact fin iy ⟨hb0,fun b k hb=>(by cases hb),fun b b' k k' hb=>(by cases hb),fun b k hb=>(by cases hb),List.nodup_nil,hG⟩ trivial rfl
  ·exact (h0 rfl).elim
 |cons k ks=>
  rcases hA with⟨h0,_⟩ | ⟨_,q,nn,cur,rfl,hB,hh,h2,h3,h4,h5,h6⟩
  ·cases h0
  ·let ρ:Env:=⟨fun _=>q,fun _=>c,fun _=>(⟨0,0,none⟩,0)⟩
   have hbl:∀b kk,au b (Ew (lh 0 (k::ks) rs ns)).bl=some kk→b=0∧kk= .cells (lh 0 (k::ks) rs ns) 65 (some 3):=fun b kk hb=>by
    by_cases hb0:b=0
    ·subst hb0
     exact⟨rfl,(zx (hb.symm.trans (aC _ _ _)))⟩
    ·have:=hb.symm.trans (aI _ _ fun e=>hb0 e.symm)
     cases this
   refine fin ρ ⟨hb0,fun b kk hb=>?_,fun b b' kk kk' h1 h2 _=>?_,fun b kk hb=>?_,List.nodup_cons.2 ⟨List.not_mem_nil,List.nodup_nil⟩,hG⟩ Nat.zero_lt_one ?_
   ·obtain⟨rfl,rfl⟩:=hbl b kk hb
    exact⟨Nat.zero_lt_one,Ej _ _ _ _ _,hB,lt_of_heap hh⟩
   ·rw[(hbl b kk h1).1,(hbl b' kk' h2).1]
   ·obtain⟨rfl,rfl⟩:=hbl b kk hb
    refine⟨nn,cur,hh,h2,h3,h4,?_,?_⟩
    ·rw[← h5,ak]
    ·rw[h6];exact En _ _ _ _ _ _
   ·show cv ρ (.slice 0 0 0 (Nat.div (lh 0 (k::ks) rs ns).length 3) none)=_
    rw[Em]
    simp only[cv,Nat.sub_zero]
    show Value.slice _ (3 * (k::ks).length / 3) _=_
    rw[Nat.mul_div_cancel_left _ (by omega)]
def LX (ex:List Nat)(d n:Int):Bool:=(decide ((wO ex).1≤d) && decide (d≤(wO ex).2)) && (decide ((wN ex).1≤n) && decide (n≤(wN ex).2))
def jg (p:Nat)(o:Value)(ex:List Nat)(d n:Int):List Value:=if LX ex d n=true then aG iy (D5 p o ex d n) else []
theorem VO {w0 w:World}(hG:gJ w0)(hb0:Below w0.heap.size w0 w){p:Nat}{nm ks ex:List Nat}(hS:ae p nm ks ex)(al:Bool)(o:Int)(rs ns:Nat→Int){A:Option Addr}{c:Nat}(hA:eX w0.heap.size w A c (aG iy (lh 0 ks rs ns)))(d n:Int):
 Calls Tryz.prog 17 #[.agg #[.int .i64 (p:Int),.int .u8 o,.string (aa nm),.slice A ks.length c,.string (aa ex),.bool al],.int .i64 d,.int .i64 n] w fun e w'=>∃A' c',
  e= .returned (.tuple #[.slice A' (jg p (.int .u8 o) ex d n).length c',.bool (LX ex d n)])∧(jg p (.int .u8 o) ex d n).length≤c'∧Rd w' (fun _=>True) A' (jg p (.int .u8 o) ex d n)∧Below w.heap.size w w':=by
 obtain⟨h1,h2,h3,h4⟩:=hS al o rs ns d n
 cases hd:(decide ((wO ex).1≤d) && decide (d≤(wO ex).2)) <;> cases hn:(decide ((wN ex).1≤n) && decide (n≤(wN ex).2))
 ·have:=lN hG hb0 hA hd hn (fun _=>rfl) h4
  simpa only[jg,LX,hd,hn,Bool.and_self,Bool.false_eq_true,if_false,aG,List.length_nil] using this
 ·have:=lN hG hb0 hA hd hn (fun _=>rfl) h3
  simpa only[jg,LX,hd,hn,Bool.false_and,Bool.false_eq_true,if_false,aG,List.length_nil] using this
 ·have:=lN hG hb0 hA hd hn (fun _=>rfl) h2
  simpa only[jg,LX,hd,hn,Bool.and_false,Bool.false_eq_true,if_false,aG,List.length_nil] using this
 ·have:=lN hG hb0 hA hd hn (fun ρ=>acw ρ iy p (.int .u8 o) ex d n) h1
  simpa only[jg,LX,hd,hn,Bool.and_self,if_true,ak] using this
end Go.Proofs.YtceaodnohnekkaaGreatDoor.Ex
namespace Go.Proofs.YtceaodnohnekkaaGreatDoor
open Go.RowKit
set_option maxHeartbeats 1000000 in
theorem sM (s s':ByteArray)(A A':Option Addr)(l l':List ay)(n n' c c':Nat)(w:World)(p p':Nat→Prop)(hn:l.length=n)(hn':l'.length=n')(hm:(n:Int)≤140737488355328)(h:Rd w p A (bE l))(h':Rd w p' A' (bE l')):
 Calls Tryz.prog 12 #[.agg #[.string s,.slice A n c],.agg #[.string s',.slice A' n' c']] w fun e w'=>e= .returned (.bool (decide (s=s'∧l=l')))∧Below w.heap.size w w':=by
 have C:Hid (∀W,Below w.heap.size w W→Calls Tryz.prog 28 #[.slice A n c,.slice A' n' c'] W fun e w'=>e= .returned (.bool (decide (l=l')))∧Below W.heap.size W w'):=fun W hb=>OP A A' l l' n n' c c' W p p' hn hn' hm (h.after hb) (h'.after hb)
 have HA:Hid (Below w.heap.size w ((w.alloc (.cells #[.string s,.slice A n c] 24)).alloc (.cells #[.string s',.slice A' n' c'] 24))):=((zo _ _).alloc (zu _) _).alloc (by simp) _
 clear h h' hn hn' hm
 by_cases hs:s=s'
 ·subst hs
  have e1:(s.toList == s.toList)=true:=beq_self_eq_true _
  go_enter Tryz.func12,Tryz.ntmps12
  go_wp2_with (go_at_call 28;refine (C.out _ HA.out).mono ?_;rintro e w1 ⟨rfl,hb⟩;have HB:=zz (HA.out.trans (hb.mono HA.out.size));clear hb)
  go_ret
  exact⟨by simp,HB.out⟩
 ·have e1:(s.toList == s'.toList)=false:=by
   simp only[beq_eq_false_iff_ne]
   intro e
   rw[ByteArray.toList_eq,ByteArray.toList_eq] at e
   exact hs (ByteArray.ext (Array.ext' e))
  have e2:Hid (decide (s=s'∧l=l')=false):=by simp[Hid,hs]
  clear hs
  go_enter Tryz.func12,Tryz.ntmps12
  go_wp2
  go_ret
  exact⟨aQ e2.out.symm,HA.out⟩
theorem ND:El Tryz.prog 22 65 (.agg #[.int .i64 0,.int .i64 0,.int .i64 0]) 3 24:=⟨Tryz.underlying22,by kernel_rfl,rfl,by decide⟩
theorem agq {l:List ay}{u:Value}(h:u∈bE l):∃x,u= .int .i64 x:=by
 induction l with
 |nil=>cases h
 |cons o l ih=>
  rw[iN] at h
  simp only[List.mem_cons] at h
  rcases h with rfl | rfl | rfl | h
  ·exact⟨_,rfl⟩
  ·exact⟨_,rfl⟩
  ·exact⟨_,rfl⟩
  ·exact ih h
theorem OQ (l:List ay):∀u∈bE l,u.oneCell'=true:=fun u hu=>by
 obtain⟨x,rfl⟩:=agq hu
 rfl
theorem wX (A:Option Addr)(l:List ay)(n c:Nat)(w:World)(p:Nat→Prop)(hn:n=l.length)(hm:l.length≤1000)(h:Rd w p A (bE l)):
 Calls Tryz.prog 68 #[.slice A n c] w fun e w'=>∃v,e= .returned v∧w'.ownsRow w.heap.size 65 3 v l.length (bE l)∧Below w.heap.size w w':=by
 subst hn
 rcases A with _ | ad
 ·have hl:l=[]:=by
   apply Classical.byContradiction
   intro hx
   obtain⟨_,e,_⟩:=h (by
    cases l with
    |nil=>exact absurd rfl hx
    |cons o l=>simp[iN])
   cases e
  subst hl
  have hnil:=fun w=>Lib.run_eql_slice_nil (P:=Tryz.prog) w 22 65 none 0 c 0 0 Tryz.underlying22
  go_enter Tryz.func68,Tryz.ntmps68
  go_wp2
  go_ret
  exact⟨_,rfl,World.ownsRow_nil _ _ _ _,zo _ _⟩
 ·have hnil:=fun w n=>Lib.run_eql_slice_nil (P:=Tryz.prog) w 22 65 (some ad) n c 0 0 Tryz.underlying22
  go_enter Tryz.func68,Tryz.ntmps68
  have hown:(w.alloc (.cells #[] 65)).ownsRow w.heap.size 65 3 (.slice (some ⟨w.heap.size,0,none⟩) 0 0) 0 []:=World.ownsRow_lit w #[] 0 (zu _) (by decide) rfl
  have hb:Below w.heap.size w (w.alloc (.cells #[] 65)):=(zo _ _).alloc (zu _) _
  go_wp2_with (at_builtin;refine eY ND rfl (.tmp 5) (.tmp 6) rfl w.heap.size _ 0 [] p (some ad) l.length c (bE l) rfl rfl hown (gZ l) (h.after hb) (OQ l) (by simp only[maxLen];omega) (by omega) hb.size ?_;intro v' w1 hown1 hg1 Nq hz1)
  go_ret
  refine⟨v',rfl,by simpa using hown1,hb.grown hg1 hb.size fun k hk=>?_⟩
  have e:w.heap.size=k:=zx hk
  omega
def Ow (w:World)(B:Nat)(A:Option Addr)(l:List ay):Prop:=
 l≠[]→∃q off cur T,A=some ⟨q,off,none⟩∧B≤q∧w.heap[q]? =some (.cells cur T (0,0))∧(cur.toList.drop off).take (l.length * 3)=bE l
theorem Ow.nil (w:World)(B:Nat)(A:Option Addr):Ow w B A []:=fun h=>absurd rfl h
theorem Ow.sI {w:World}{B n c:Nat}{T:TypeId}{A:Option Addr}{l:List ay}(h:w.ownsRow B T 3 (.slice A n c) n (bE l)):Ow w B A l:=fun hl=>by
 rcases h.2 with⟨_,h0⟩ | ⟨g,cap,cur,hv,hg,hh,_,_,_,hx⟩
 ·have h1:=h.1
  rw[h0,gZ] at h1
  cases l with
  |nil=>exact absurd rfl hl
  |cons o l=>simp at h1
 ·injection hv with hA _ _
  have h1:=h.1
  rw[gZ] at h1
  exact⟨g,0,cur,T,hA,hg,hh,by rw[h1,List.drop_zero];exact hx⟩
theorem Ow.after {w w':World}{B:Nat}{A:Option Addr}{l:List ay}(h:Ow w B A l)(hb:Below w.heap.size w w'):Ow w' B A l:=fun hl=>by
 obtain⟨q,off,cur,T,hA,hB,hh,hx⟩:=h hl
 exact⟨q,off,cur,T,hA,hB,(hb.block q (gU hh)).trans hh,hx⟩
theorem Ow.mono {w:World}{B B':Nat}{A:Option Addr}{l:List ay}(h:Ow w B A l)(hB:B'≤B):Ow w B' A l:=fun hl=>by
 obtain⟨q,off,cur,T,hA,hq,h'⟩:=h hl
 exact⟨q,off,cur,T,hA,by omega,h'⟩
theorem y7 (q off j:Nat):(⟨q,off,none⟩:Addr).add j=⟨q,off+j,none⟩:=by
 unfold Addr.add
 split
 ·rename_i h;subst h;rfl
 ·rfl
theorem Ow.at {w:World}{q off:Nat}{cur:Array Value}{T:TypeId}{l:List ay}(hh:w.heap[q]? =some (.cells cur T (0,0)))(hc:(cur.toList.drop off).take (l.length * 3)=bE l){j:Nat}{u:Value}(hu:(bE l)[j]? =some u):
 w.cell? ⟨q,off+j,none⟩=some u∧off+j < cur.size:=by
 have hj:j < (bE l).length:=(List.getElem?_eq_some_iff.1 hu).1
 rw[gZ] at hj
 rw[← hc,List.getElem?_take,if_pos hj,List.getElem?_drop] at hu
 refine⟨?_,by simpa using (List.getElem?_eq_some_iff.1 hu).1⟩
 simp only[World.cell?,hh]
 simpa using hu
theorem Ow.rd {w:World}{B:Nat}{A:Option Addr}{l:List ay}(h:Ow w B A l):Rd w (fun b=>B≤b) A (bE l):=fun hx=>by
 have hl:l≠[]:=fun e=>hx (by rw[e];rfl)
 obtain⟨q,off,cur,T,rfl,hB,hh,hc⟩:=h hl
 exact⟨_,rfl,hB,fun j u hu=>by rw[y7];exact (Ow.at hh hc hu).1⟩
theorem agr {l:List ay}{k:Nat}{o:ay}(hk:l[k]? =some o):(bE l)[k * 3]? =some (.int .i64 o.1)∧(bE l)[k * 3+1]? =some (.int .i64 o.2.1)∧(bE l)[k * 3+2]? =some (.int .i64 o.2.2):=by
 have hlt:k < l.length:=(List.getElem?_eq_some_iff.1 hk).1
 have hd:(bE l).drop (k * 3)=o3v o++bE (l.drop (k+1)):=by
  rw[wY,List.drop_eq_getElem_cons hlt,(List.getElem_eq_iff hlt).2 hk]
  rfl
 have key:∀j,(bE l)[k * 3+j]? =(o3v o++bE (l.drop (k+1)))[j]?:=fun j=>by rw[← List.getElem?_drop,hd]
 exact⟨key 0,key 1,key 2⟩
theorem agp {l:List ay}{k:Nat}{o:ay}(z:Int)(hk:l[k]? =some o):(bE l).set (k * 3+2) (.int .i64 z)=bE (l.set k (o.1,o.2.1,z)):=by
 induction l generalizing k with
 |nil=>cases hk
 |cons a l ih=>
  cases k with
  |zero=>
   obtain rfl:=zx hk
   rfl
  |succ k=>
   rw[iN,show (k+1) * 3+2=(k * 3+2)+1+1+1 by omega]
   simp only[List.set_cons_succ]
   rw[ih (by simpa using hk),iN]
theorem Ow.cells {w:World}{B:Nat}{A:Option Addr}{l:List ay}(h:Ow w B A l){k:Nat}{o:ay}(hk:l[k]? =some o):
 ∃q off,A=some ⟨q,off,none⟩∧B≤q∧w.cell? ⟨q,off+k * 3,none⟩=some (.int .i64 o.1)∧w.cell? ⟨q,off+k * 3+1,none⟩=some (.int .i64 o.2.1)∧w.cell? ⟨q,off+k * 3+2,none⟩=some (.int .i64 o.2.2)∧w.frozen? ⟨q,off+k * 3+2,none⟩=false∧
  (∀z,Ow (w.setCell ⟨q,off+k * 3+2,none⟩ (.int .i64 z)) B A (l.set k (o.1,o.2.1,z))):=by
 have hlt:k < l.length:=(List.getElem?_eq_some_iff.1 hk).1
 have hl:l≠[]:=fun e=>by rw[e] at hlt;exact absurd hlt (Nat.not_lt_zero _)
 obtain⟨q,off,cur,T,rfl,hB,hh,hc⟩:=h hl
 obtain⟨g0,g1,g2⟩:=agr hk
 have key:∀j u,(bE l)[k * 3+j]? =some u→w.cell? ⟨q,off+k * 3+j,none⟩=some u:=fun j u hu=>by
  rw[Nat.add_assoc];exact (Ow.at hh hc hu).1
 refine⟨q,off,rfl,hB,key 0 _ g0,key 1 _ g1,key 2 _ g2,?_,fun z _=>?_⟩
 ·simp[World.frozen?,hh]
 ·have hq:q < w.heap.size:=gU hh
  have hh':w.heap[q]= .cells cur T (0,0):=by simpa [Array.getElem?_eq_getElem hq] using hh
  have mM:=(Ow.at hh hc g2).2
  refine⟨q,off,cur.setIfInBounds (off+k * 3+2) (.int .i64 z),T,rfl,hB,?_,?_⟩
  ·show (w.heap.modify q _)[q]? =_
   rw[Array.getElem?_eq_getElem (by simpa using hq),Array.getElem_modify_self,hh']
   first | rfl | simp
  ·rw[← agp z hk,← hc,List.length_set]
   apply List.ext_getElem?
   intro j
   simp only[Array.toList_setIfInBounds,List.getElem?_take,List.getElem?_drop,List.getElem?_set,List.length_take,List.length_drop]
   have hlen:l.length * 3≤cur.toList.length - off:=by
    have:=congrArg List.length hc
    rw[gZ,List.length_take,List.length_drop] at this
    omega
   by_cases h1:j < l.length * 3
   ·rw[if_pos h1]
    by_cases h2:k * 3+2=j
    ·subst h2
     simp only[if_true,Nat.add_assoc]
     rw[if_pos (by simpa [Nat.add_assoc] using mM),if_pos (by omega)]
    ·rw[if_neg (by omega),if_neg h2,if_pos h1]
   ·rw[if_neg h1]
    by_cases h2:k * 3+2=j
    ·omega
    ·rw[if_neg h2,if_neg h1]
def Bk (w:World)(b:Nat)(T:TypeId)(vs:List Value):Prop:=w.heap[b]? =some (.cells vs.toArray T (0,0))
section
variable {w w':World} {b:Nat} {T:TypeId} {vs:List Value}
theorem Bk.lt (h:Bk w b T vs):b < w.heap.size:=gU h
theorem Bk.new (w:World)(T:TypeId)(vs:List Value):Bk (w.alloc (.cells vs.toArray T)) w.heap.size T vs:=heap_alloc_new w _
theorem Bk.cell (h:Bk w b T vs)(j:Nat){u:Value}(hu:vs[j]? =some u):w.cell? ⟨b,j,none⟩=some u:=by
 have h:w.heap[b]? =some (.cells vs.toArray T (0,0)):=h
 simp only[World.cell?,h]
 simpa using hu
theorem Bk.frozen (h:Bk w b T vs)(j:Nat):w.frozen? ⟨b,j,none⟩=false:=by
 have h:w.heap[b]? =some (.cells vs.toArray T (0,0)):=h
 simp[World.frozen?,h]
theorem Bk.set (h:Bk w b T vs)(j:Nat)(u:Value):Bk (w.setCell ⟨b,j,none⟩ u) b T (vs.set j u):=by
 have hlt:=h.lt
 have h':w.heap[b]= .cells vs.toArray T (0,0):=by simpa [Bk,Array.getElem?_eq_getElem hlt] using h
 show (w.heap.modify b _)[b]? =_
 rw[Array.getElem?_eq_getElem (by simpa using hlt),Array.getElem_modify_self,h']
 simp
theorem Bk.other (h:Bk w b T vs){p:Addr}(hp:b≠p.block)(u:Value):Bk (w.setCell p u) b T vs:=(Below.heap_setCell w p u b hp).trans h
theorem Bk.alloc (h:Bk w b T vs)(O:Obj):Bk (w.alloc O) b T vs:=(Below.heap_alloc w O b h.lt).trans h
theorem Bk.after (h:Bk w b T vs)(hb:Below w.heap.size w w'):Bk w' b T vs:=(hb.block b h.lt).trans h
theorem Bk.below {B:Nat}(h:Bk w b T vs)(hb:Below B w w')(hB:b < B):Bk w' b T vs:=(hb.block b hB).trans h
end
theorem Ow.other {w:World}{B:Nat}{A:Option Addr}{l:List ay}(h:Ow w B A l){p:Addr}(hp:p.block < B)(u:Value):Ow (w.setCell p u) B A l:=fun hl=>by
 obtain⟨q,off,cur,T,hA,hB,hh,hx⟩:=h hl
 exact⟨q,off,cur,T,hA,hB,(Below.heap_setCell w p u q (by omega)).trans hh,hx⟩
theorem Ow.ne {w:World}{B:Nat}{A:Option Addr}{l:List ay}(h:Ow w B A l){p:Addr}(hp:l≠[]→∀a,A=some a→a.block≠p.block)(u:Value):Ow (w.setCell p u) B A l:=fun hl=>by
 obtain⟨q,off,cur,T,hA,hB,hh,hx⟩:=h hl
 have hne:q≠p.block:=hp hl _ hA
 exact⟨q,off,cur,T,hA,hB,(Below.heap_setCell w p u q hne).trans hh,hx⟩
theorem jY {w:World}{p:Addr}{u:Value}(O:Obj)(h:w.cell? p=some u):(w.alloc O).cell? p=some u:=(World.cell?_alloc_lt w O p (lt_of_cell h)).trans h
theorem eB {w w':World}{p:Addr}{u:Value}(hb:Below w.heap.size w w')(h:w.cell? p=some u):w'.cell? p=some u:=(hb.cell (lt_of_cell h)).trans h
abbrev upS (s:ByteArray):ByteArray:=⟨(s.data.toList.map Aj).toArray⟩
set_option maxHeartbeats 1000000 in
theorem xx (s:ByteArray)(A:Option Addr)(l:List ay)(n c:Nat)(w:World)(p:Nat→Prop)(hs:s.size≤1000)(hn:n=l.length)(hm:l.length≤1000)(h:Rd w p A (bE l)):
 Calls Tryz.prog 76 #[.string s,.slice A n c] w fun e w'=>∃A' c',e= .returned (.agg #[.string (upS s),.slice A' n c'])∧Ow w' w.heap.size A' l∧n≤c'∧Below w.heap.size w w':=by
 have C1:Hid (∀W,Calls Tryz.prog 141 #[.string s] W fun e w'=>e= .returned (.string (upS s))∧Below W.heap.size W w'):=fun W=>Ai s W (by unfold maxLen;omega)
 have C2:Hid (∀W,Below w.heap.size w W→Calls Tryz.prog 68 #[.slice A n c] W fun e w'=>∃A' c',e= .returned (.slice A' n c')∧Ow w' W.heap.size A' l∧n≤c'∧Below W.heap.size W w'):=fun W hb=>by
  refine (wX A l n c W p hn hm (h.after hb)).mono ?_
  rintro e w' ⟨v,rfl,ho,hb'⟩
  obtain⟨A',c',rfl,hc,_⟩:=jB ho
  subst hn
  exact⟨A',c',rfl,Ow.sI ho,hc,hb'⟩
 have HA:Hid (Below w.heap.size w (w.alloc (.cells #[.string ⟨#[]⟩,.slice none 0 0] 24))):=(zo _ _).alloc (zu _) _
 have HK:=zz (Bk.new w 24 [.string ⟨#[]⟩,.slice none 0 0])
 clear h hs hn hm
 go_enter Tryz.func76,Tryz.ntmps76
 go_wp2_with (first
  |(go_at_call 141;refine (C1.out _).mono ?_;rintro e w1 ⟨rfl,hb⟩;have HB1:=zz (HA.out.trans (hb.mono HA.out.size));have fE:=zz (HK.out.after hb);clear hb)
  |(go_at_call 68;refine (C2.out _ HB1.out).mono ?_;rintro e w2 ⟨A',c',rfl,ho,hc,hb⟩;have HO:=zz ho;have HC:=zz hc;have HB2:=zz (HB1.out.trans (hb.mono HB1.out.size));have kE:=zz (fE.out.after hb);have c0:=kE.out.cell 0 rfl;have c1:=kE.out.cell 1 rfl;have f0:=kE.out.frozen 0;have f1:=kE.out.frozen 1;clear hb ho hc))
 have k:=(kE.out.set 0 (.string (upS s))).set 1 (.slice A' n c')
 have y0:=k.cell 0 rfl
 have y1:=k.cell 1 rfl
 have hlt:w.heap.size < w1.heap.size:=fE.out.lt
 refine bodyPost_ret (v:=.agg #[.string (upS s),.slice A' n c']) (by simp[results,Tryz.results76,go_sem,y0,y1]) rfl ⟨A',c',rfl,((HO.out.other hlt _).other hlt _).mono (by omega),HC.out,(HB2.out.setCell (zu _) _).setCell (zu _) _⟩
def jq (k:Nat)(l:List ay):List ay:=(l.take k).map aY++l.drop k
theorem KH {k:Nat}{l:List ay}{o:ay}(h:l[k]? =some o):(jq k l)[k]? =some o:=by
 have hlt:k < l.length:=(List.getElem?_eq_some_iff.1 h).1
 unfold jq
 rw[List.getElem?_append_right (by simp;omega)]
 simp[Nat.min_eq_left (Nat.le_of_lt hlt),h]
theorem KG {k:Nat}{l:List ay}{o:ay}(h:l[k]? =some o):(jq k l).set k (o.1,o.2.1,0)=jq (k+1) l:=by
 have hlt:k < l.length:=(List.getElem?_eq_some_iff.1 h).1
 have hd:l.drop k=o::l.drop (k+1):=by
  rw[List.drop_eq_getElem_cons hlt,(List.getElem_eq_iff hlt).2 h]
 have ht:l.take (k+1)=l.take k++[o]:=by
  rw[List.take_add_one,h];rfl
 unfold jq
 rw[hd,ht,List.map_append,List.set_append_right _ _ (by simp;omega)]
 simp[Nat.min_eq_left (Nat.le_of_lt hlt),aY]
theorem EP (l:List ay):jq 0 l=l:=by simp[jq]
theorem KI (l:List ay){k:Nat}(h:l.length≤k):jq k l=l.map aY:=by simp[jq,List.take_of_length_le h,List.drop_eq_nil_of_le h]
set_option maxHeartbeats 2000000 in
theorem Bd (s:ByteArray)(A:Option Addr)(l:List ay)(n c:Nat)(w:World)(p:Nat→Prop)(hs:s.size≤1000)(hn:n=l.length)(hm:l.length≤1000)(h:Rd w p A (bE l)):
 Calls Tryz.prog 75 #[.agg #[.string s,.slice A n c]] w fun e w'=>∃A' c',e= .returned (.agg #[.string s,.slice A' n c'])∧Ow w' w.heap.size A' (l.map aY)∧Below w.heap.size w w':=by
 have C:Hid (∀W,Below w.heap.size w W→Calls Tryz.prog 76 #[.string s,.slice A n c] W fun e w'=>∃A' c',e= .returned (.agg #[.string (upS s),.slice A' n c'])∧Ow w' W.heap.size A' l∧n≤c'∧Below W.heap.size W w'):=fun W hb=>xx s A l n c W p hs hn hm (h.after hb)
 have HA:Hid (Below w.heap.size w ((w.alloc (.cells #[.string s,.slice A n c] 24)).alloc (.cells #[.string ⟨#[]⟩,.slice none 0 0] 24))):=((zo _ _).alloc (zu _) _).alloc (by simp) _
 have Kw:Hid (Bk ((w.alloc (.cells #[.string s,.slice A n c] 24)).alloc (.cells #[.string ⟨#[]⟩,.slice none 0 0] 24)) w.heap.size 24 [.string s,.slice A n c]):=(Bk.new w 24 [.string s,.slice A n c]).alloc _
 have fE:Hid (Bk ((w.alloc (.cells #[.string s,.slice A n c] 24)).alloc (.cells #[.string ⟨#[]⟩,.slice none 0 0] 24)) (w.heap.size+1) 24 [.string ⟨#[]⟩,.slice none 0 0]):=by
  have:=Bk.new (w.alloc (.cells #[.string s,.slice A n c] 24)) 24 [.string ⟨#[]⟩,.slice none 0 0]
  rwa [World.size_alloc] at this
 have HN:=zz hn
 have hni:(n:Int)≤1000:=by omega
 clear h hs hn hm
 go_enter Tryz.func75,Tryz.ntmps75
 go_wp2_with (go_at_call 76;refine (C.out _ HA.out).mono ?_;rintro e w1 ⟨A',c',rfl,ho,hc,hb⟩;have HB1:=zz (HA.out.trans (hb.mono HA.out.size));have HO:=zz (ho.mono (B':=w.heap.size+1+1) (by simp));have K0:=zz (Kw.out.after hb);have K1:=zz (fE.out.after hb);have k0:=jY (.cells #[.string (upS s),.slice A' n c'] 24) (K0.out.cell 0 rfl);clear hb ho hc)
 have hlt:w.heap.size+1 < w1.heap.size:=K1.out.lt
 have HS:Hid (Bk (w1.alloc (.cells #[.string s,.slice A' n c'] 24)) w1.heap.size 24 [.string s,.slice A' n c']∧Bk (w1.alloc (.cells #[.string s,.slice A' n c'] 24)) (w.heap.size+1) 24 [.string ⟨#[]⟩,.slice none 0 0]∧
  Ow (w1.alloc (.cells #[.string s,.slice A' n c'] 24)) (w.heap.size+1+1) A' l∧Below w.heap.size w (w1.alloc (.cells #[.string s,.slice A' n c'] 24))):=
  ⟨Bk.new w1 24 [.string s,.slice A' n c'],K1.out.alloc _,HO.out.after ((zo _ _).alloc (zu _) _),HB1.out.alloc (by omega) _⟩
 have HQ:Hid (l≠[]→∀a,A'=some a→a.block < w1.heap.size):=fun hl a ha=>by
  obtain⟨q,off,cur,T,hA,_,hh,_⟩:=HO.out hl
  rw[hA] at ha
  obtain rfl:=zx ha
  exact gU hh
 obtain⟨Q,hQ⟩:∃Q,w1.heap.size=Q:=⟨_,rfl⟩
 obtain⟨W0,hW0⟩:∃W0,w1.alloc (.cells #[.string s,.slice A' n c'] 24)=W0:=⟨_,rfl⟩
 rw[hQ,hW0] at HS
 rw[hQ] at HQ
 rw[hQ] at hlt ⊢
 rw[hW0]
 clear hQ hW0 k0
 go_loopw [4,16] (fun _ v wr=>∃k:Nat,v= .int .i64 (k:Int)∧k≤n∧Hid (Bk wr Q 24 [.string s,.slice A' n c']∧Bk wr (w.heap.size+1) 24 [.string ⟨#[]⟩,.slice none 0 0]∧Ow wr (w.heap.size+1+1) A' (jq k l)∧Below w.heap.size w wr)) (fun _ v _=>n - (intOf v).toNat)
 case atStart=>exact⟨0,rfl,Nat.zero_le _,by rw[EP];exact HS.out⟩
 case round=>
  obtain⟨k,rfl,hk,hr⟩:=hrel
  have q0:=hr.out.1.cell 0 rfl
  have q1:=hr.out.1.cell 1 rfl
  by_cases hlt2:k < n
  ·have hk1:k < l.length:=by rw[← HN.out];exact hlt2
   have e1:=List.getElem?_eq_getElem hk1
   obtain⟨o,ho⟩:∃o,l[k]=o:=⟨_,rfl⟩
   rw[ho] at e1
   obtain⟨q,off,rfl,hq,c0,c1,c2,f2,hset⟩:=hr.out.2.2.1.cells (KH e1)
   have HE:Hid (Bk (wr.setCell ⟨q,off+k * 3+2,none⟩ (.int .i64 0)) Q 24 [.string s,.slice (some ⟨q,off,none⟩) n c']∧Bk (wr.setCell ⟨q,off+k * 3+2,none⟩ (.int .i64 0)) (w.heap.size+1) 24 [.string ⟨#[]⟩,.slice none 0 0]∧Ow (wr.setCell ⟨q,off+k * 3+2,none⟩ (.int .i64 0)) (w.heap.size+1+1) (some ⟨q,off,none⟩) (jq (k+1) l)∧Below w.heap.size w (wr.setCell ⟨q,off+k * 3+2,none⟩ (.int .i64 0))):=by
    have hne:=HQ.out (fun e=>by rw[e] at hk1;exact absurd hk1 (Nat.not_lt_zero _)) _ rfl
    have hne:q < Q:=hne
    have:=hset 0
    rw[KG e1] at this
    exact⟨hr.out.1.other (by show Q≠q;omega) _,hr.out.2.1.other (by show w.heap.size+1≠q;omega) _,this,hr.out.2.2.2.setCell (by show w.heap.size≤q;omega) _⟩
   clear hset ho
   go_wp2
   go_roundw
   case rel=>exact⟨k+1,by go_num,by omega,HE⟩
   case measure=>simp[intOf];omega
  ·have HE:Hid (Ow wr (w.heap.size+1+1) A' (l.map aY)):=by
    have:=hr.out.2.2.1
    rwa [KI l (by rw[← HN.out];omega)] at this
   have r0:=hr.out.2.1.cell 0 rfl
   have r1:=hr.out.2.1.cell 1 rfl
   have fr0:=hr.out.2.1.frozen 0
   have fr1:=hr.out.2.1.frozen 1
   go_wp2
   have k:=(hr.out.2.1.set 0 (.string s)).set 1 (.slice A' n c')
   have y0:=k.cell 0 rfl
   have y1:=k.cell 1 rfl
   refine bodyPost_ret (v:=.agg #[.string s,.slice A' n c']) (by simp[results,Tryz.results75,go_sem,y0,y1]) rfl ⟨A',c',rfl,((HE.out.other (by simp) _).other (by simp) _).mono (by omega),(hr.out.2.2.2.setCell (Nat.le_succ _) _).setCell (Nat.le_succ _) _⟩
theorem aM {B:Nat}{w W:World}(h:Below B w W):Below B w W.drew:=⟨h.os,h.tape,h.output,h.size,h.block⟩
def bK (s s':ByteArray)(l l':List ay):Bool:=decide (s=s'∧l.map aY=l'.map aY)
set_option maxHeartbeats 2000000 in
theorem Lp (pg o:Int)(s s' ex:ByteArray)(al:Bool)(A A':Option Addr)(l l':List ay)(n n' c c':Nat)(w:World)(p p':Nat→Prop)(hs:s.size≤1000)(hs':s'.size≤1000)(hn:n=l.length)(hn':n'=l'.length)(hm:l.length≤1000)(hm':l'.length≤1000)(h:Rd w p A (bE l))(h':Rd w p' A' (bE l')):
 Calls Tryz.prog 36 #[.agg #[.int .i64 pg,.int .u8 o,.string s,.slice A n c,.string ex,.bool al],.agg #[.string s',.slice A' n' c']] w fun e w'=>e= .returned (.bool (bK s s' l l'))∧Below w.heap.size w w':=by
 have C1:Hid (∀W,Below w.heap.size w W→Calls Tryz.prog 75 #[.agg #[.string s,.slice A n c]] W fun e w'=>∃A' c',e= .returned (.agg #[.string s,.slice A' n c'])∧Ow w' W.heap.size A' (l.map aY)∧Below W.heap.size W w'):=fun W hb=>Bd s A l n c W p hs hn hm (h.after hb)
 have C2:Hid (∀W,Below w.heap.size w W→Calls Tryz.prog 75 #[.agg #[.string s',.slice A' n' c']] W fun e w'=>∃A c,e= .returned (.agg #[.string s',.slice A n' c])∧Ow w' W.heap.size A (l'.map aY)∧Below W.heap.size W w'):=fun W hb=>Bd s' A' l' n' c' W p' hs' hn' hm' (h'.after hb)
 have C3:Hid (∀W A c A' c',Rd W (fun _=>True) A (bE (l.map aY))→Rd W (fun _=>True) A' (bE (l'.map aY))→Calls Tryz.prog 12 #[.agg #[.string s,.slice A n c],.agg #[.string s',.slice A' n' c']] W fun e w'=>e= .returned (.bool (bK s s' l l'))∧Below W.heap.size W w'):=fun W A c A' c' r r'=>by
  exact sM s s' A A' (l.map aY) (l'.map aY) n n' c c' W _ _ (by rw[List.length_map,hn]) (by rw[List.length_map,hn']) (by omega) r r'
 have HA:Hid (Below w.heap.size w ((w.alloc (.cells #[.int .i64 pg,.int .u8 o,.string s,.slice A n c,.string ex,.bool al] 49)).alloc (.cells #[.string s',.slice A' n' c'] 24))):=((zo _ _).alloc (zu _) _).alloc (by simp) _
 have fE:Hid (Bk ((w.alloc (.cells #[.int .i64 pg,.int .u8 o,.string s,.slice A n c,.string ex,.bool al] 49)).alloc (.cells #[.string s',.slice A' n' c'] 24)) w.heap.size 49 [.int .i64 pg,.int .u8 o,.string s,.slice A n c,.string ex,.bool al]):=
  (Bk.new w 49 [.int .i64 pg,.int .u8 o,.string s,.slice A n c,.string ex,.bool al]).alloc _
 have kE:Hid (Bk ((w.alloc (.cells #[.int .i64 pg,.int .u8 o,.string s,.slice A n c,.string ex,.bool al] 49)).alloc (.cells #[.string s',.slice A' n' c'] 24)) (w.heap.size+1) 24 [.string s',.slice A' n' c']):=by
  have:=Bk.new (w.alloc (.cells #[.int .i64 pg,.int .u8 o,.string s,.slice A n c,.string ex,.bool al] 49)) 24 [.string s',.slice A' n' c']
  rwa [World.size_alloc] at this
 clear h h' hs hs' hn hn' hm hm'
 go_enter Tryz.func36,Tryz.ntmps36
 go_wp2
 generalize ((w.alloc (.cells #[.int .i64 pg,.int .u8 o,.string s,.slice A n c,.string ex,.bool al] 49)).alloc (.cells #[.string s',.slice A' n' c'] 24))=W0 at HA fE kE ⊢
 have HAd:Hid (Below w.heap.size w W0.drew):=aM HA.out
 have K0:Hid (Bk W0.drew w.heap.size 49 [.int .i64 pg,.int .u8 o,.string s,.slice A n c,.string ex,.bool al]∧Bk W0.drew (w.heap.size+1) 24 [.string s',.slice A' n' c']):=⟨fE.out,kE.out⟩
 have x0:=fE.out.cell 2 rfl
 have x1:=fE.out.cell 3 rfl
 have x2:=kE.out.cell 0 rfl
 have x3:=kE.out.cell 1 rfl
 go_region_held3 (fun w'=>w'.cell? ⟨w.heap.size,2,none⟩=some (.string s)∧w'.cell? ⟨w.heap.size,3,none⟩=some (.slice A n c)∧w'.cell? ⟨w.heap.size+1,0,none⟩=some (.string s')∧w'.cell? ⟨w.heap.size+1,1,none⟩=some (.slice A' n' c')) (first | assumption | go_keep) (first
  |(go_at_call 75;(with_reducible refine (C1.out _ HAd.out).mono ?_);rintro e w1 ⟨A1,c1,rfl,ho,hb⟩;have HB1:=zz (HAd.out.trans (hb.mono HAd.out.size));have HO1:=zz ho;have K1:=zz (zy (K0.out.1.after hb) (K0.out.2.after hb));have y0:=K1.out.1.cell 2 rfl;have y1:=K1.out.1.cell 3 rfl;have y2:=K1.out.2.cell 0 rfl;have y3:=K1.out.2.cell 1 rfl;clear hb ho)
  |(go_at_call 75;(with_reducible refine (C2.out _ HB1.out).mono ?_);rintro e w2 ⟨A2,c2,rfl,ho,hb⟩;have HB2:=zz (HB1.out.trans (hb.mono HB1.out.size));have HO2:=zz ho;have ayA:=zz (HO1.out.after hb);have K2:=zz (zy (K1.out.1.after hb) (K1.out.2.after hb));have z0:=K2.out.1.cell 2 rfl;have z1:=K2.out.1.cell 3 rfl;have z2:=K2.out.2.cell 0 rfl;have z3:=K2.out.2.cell 1 rfl;clear hb ho)
  |(go_at_call 12;refine (C3.out _ _ _ _ _ (ayA.out.rd.gz fun _ _=>trivial) (HO2.out.rd.gz fun _ _=>trivial)).mono ?_;rintro e w3 ⟨rfl,hb⟩;have HB3:=zz (HB2.out.trans (hb.mono HB2.out.size));have v0:=(K2.out.1.after hb).cell 2 rfl;have v1:=(K2.out.1.after hb).cell 3 rfl;have v2:=(K2.out.2.after hb).cell 0 rfl;have v3:=(K2.out.2.after hb).cell 1 rfl;clear hb))
 all_goals
  go_wp2
  go_ret
  exact⟨rfl,HB3.out⟩
end Go.Proofs.YtceaodnohnekkaaGreatDoor
namespace Go.Proofs.YtceaodnohnekkaaGreatDoor
def amJ (md:Region.Mode)(ops:Array Oper)(ts:Array Value):Array Bool→List Nat→Bool
 |_,[]=>true
 |L,i::is=>match ops[i]? with
  |none=>false
  |some o=>Region.free md ops L i && ((Region.ready md ops L).contains i && (!(Region.wanted o (yielded ops ts)) && amJ md ops ts (L.setIfInBounds i true) is))
def amI (ops:Array Oper)(a:Act):List Nat→Prop
 |[]=>True
 |i::is=>(match ops[i]? with
  |some o=>a.put o.dst undef=a
  |none=>True)∧amI ops a is
def asw:Array Bool→List Nat→Array Bool
 |L,[]=>L
 |L,i::is=>asw (L.setIfInBounds i true) is
theorem F8 {P:Program}{md:Region.Mode}{ops:Array Oper}{Q:Exit→Act→World→Prop}{S:World→Prop}{a:Act}{w:World}(hs:Region.noSelect ops=true)(hQ:∀c (a:Act) d w,Q (.panic c) (a.put d undef) w→Q (.panic c) a w)(hS:S w):∀(is:List Nat) {L:Array Bool} (fuel:Nat) {n:Nat},n=fuel+is.length→amJ md ops a.tmps L is=true→amI ops a is→wpAnyH P md ops Q S fuel (asw L is) a w→wpAnyH P md ops Q S n L a w
 |[],L,fuel,n,hn,_,_,h=>by
  subst hn
  exact h
 |i::is,L,fuel,n,hn,hb,ha,h=>by
  unfold amJ at hb
  unfold amI at ha
  cases ho:ops[i]? with
  |none=>rw[ho] at hb;cases hb
  |some o=>
   rw[ho] at hb ha
   simp only[Bool.and_eq_true,Bool.not_eq_true'] at hb ha
   subst hn
   rw[List.length_cons,← Nat.add_assoc]
   refine wpAnyH_take ho hs hb.1 hb.2.1 (fun c a' w h=>hQ c a' _ w h) (.inr ⟨hb.2.2.1,rfl⟩) hS ?_
   rw[ha.1]
   exact F8 hs hQ hS is fuel rfl hb.2.2.2 ha.2 h
end Go.Proofs.YtceaodnohnekkaaGreatDoor
namespace Go.Proofs.YtceaodnohnekkaaGreatDoor
open Go.RowKit Ex
abbrev dX (w:World)(L:ByteArray)(nm:List Nat)(b:Bool):Prop:=∀W,Below w.heap.size w W→Calls Tryz.prog 129 #[.string L,.string (aa nm)] W fun e w'=>e= .returned (.bool b)∧Below W.heap.size W w'
abbrev XI:ByteArray:=⟨#[83,85,66,32,65,78,68,32,88,79,82,32,79,82,32,67,80]⟩
abbrev afA:ByteArray:=⟨#[65,68,68,32,65,68,67,32,83,66,67]⟩
abbrev XJ:ByteArray:=⟨#[66,73,84,32,82,69,83,32,83,69,84,32,73,77,32,82,83,84,32,79,85,84]⟩
abbrev tJp:ByteArray:=⟨#[74,80,32,67,65,76,76]⟩
def Wr (B b:Nat)(nm:List Nat)(l:List ay)(w:World):Prop:=∃A n c,Bk w b 135 [.string (aa nm),.slice A n c]∧Ow w B A l∧n=l.length∧n≤c
theorem Ow.alloc {w:World}{B:Nat}{A:Option Addr}{l:List ay}(h:Ow w B A l)(O:Obj):Ow (w.alloc O) B A l:=h.after ((zo _ _).alloc (zu _) _)
abbrev NZ (w:World)(B b:Nat)(nm:List Nat)(A:Option Addr)(n c:Nat)(l:List ay)(q:Nat)(W:World):Prop:=Bk W b 135 [.string (aa nm),.slice A n c]∧Ow W B A l∧Below w.heap.size w W∧Bk W q 65 [.int .i64 1,.int .i64 7,.int .i64 0]
theorem NZ.after {w W W':World}{B b n c q:Nat}{nm:List Nat}{A:Option Addr}{l:List ay}(h:NZ w B b nm A n c l q W)(hb:Below W.heap.size W W'):NZ w B b nm A n c l q W':=
 ⟨h.1.after hb,h.2.1.after hb,h.2.2.1.trans (hb.mono h.2.2.1.size),h.2.2.2.after hb⟩
set_option maxHeartbeats 4000000 in
theorem rP (B b:Nat)(nm:List Nat)(A:Option Addr)(l:List ay)(n c:Nat)(w:World)(b1 b2:Bool)(hk:Bk w b 135 [.string (aa nm),.slice A n c])(ho:Ow w B A l)(hn:n=l.length)(hc:n≤c)(hm:l.length≤3)(hB:B≤w.heap.size)
 (C1:dX w XI nm b1) (C2:dX w afA nm b2) (h1:b1=false∨(b1=true∧n≠2)) (h2:b2=false∨(b2=true∧n≠1)):
 Calls Tryz.prog 69 #[.pointer (some ⟨b,0,none⟩)] w fun e w'=>e= .returned (.tuple #[])∧Wr B b nm l w'∧Below B w w':=by
 have C1:=zz C1
 have C2:=zz C2
 have H0:Hid (NZ w B b nm A n c l w.heap.size (w.alloc (.cells #[.int .i64 1,.int .i64 7,.int .i64 0] 65))):=⟨hk.alloc _,ho.alloc _,(zo _ _).alloc (zu _) _,Bk.new w 65 [.int .i64 1,.int .i64 7,.int .i64 0]⟩
 have fin:Hid (∀W,NZ w B b nm A n c l w.heap.size W→(Wr B b nm l W∧Below B w W)):=fun W hW=>⟨⟨A,n,c,hW.1,hW.2.1,hn,hc⟩,hW.2.2.1.mono hB⟩
 have hn3:(n:Int)≤3:=by omega
 have g0:=H0.out.1.cell 0 rfl
 have g1:=H0.out.1.cell 1 rfl
 have HF1:Hid (b1=false∨(b1=true∧((n:Int) == 2)=false)):=by
  rcases h1 with h | ⟨h,h'⟩
  ·exact .inl h
  ·exact .inr ⟨h,by simp;omega⟩
 have HF2:Hid (b2=false∨(b2=true∧((n:Int) == 1)=false)):=by
  rcases h2 with h | ⟨h,h'⟩
  ·exact .inl h
  ·exact .inr ⟨h,by simp;omega⟩
 clear hk ho hn hc hm hB h1 h2
 go_enter Tryz.func69,Tryz.ntmps69
 go_wp2
 generalize (w.alloc (.cells #[.int .i64 1,.int .i64 7,.int .i64 0] 65))=W0 at H0 g0 g1 ⊢
 have Hd:=zz (aM H0.out.2.2.1)
 have Kw:Hid (NZ w B b nm A n c l w.heap.size W0.drew):=⟨H0.out.1,H0.out.2.1,Hd.out,H0.out.2.2.2⟩
 rcases HF1.out with d1 | ⟨d1,d2⟩
 all_goals
  subst d1
  clear HF1
  refine wp_region_held_drew (S:=fun w'=>w'.cell? ⟨b,0,none⟩=some (.string (aa nm))∧w'.cell? ⟨b,1,none⟩=some (.slice A n c)) (by kernel_rfl) ⟨Kw.out.1.cell 0 rfl,Kw.out.1.cell 1 rfl⟩ (fun hHeld=>?_)
  refine wpAnyH_take (i:=0) (oi:={ dst:=some 5,op:=.move (.tmp 0),type:=132,pos:= "canon.go:33",after:=#[],guard:=none}) (v:=?_) rfl (by kernel_rfl) (by kernel_rfl) (by kernel_rfl) (fun _ _ _ h=>h) (Or.inl ⟨by rfl,?_⟩) (by assumption) ?_
  rotate_left
  ·(intro w hSw;(try dsimp only at hSw);go_simp) <;> with_reducible rfl
  try simp only[Act.put,List.setIfInBounds_toArray,List.set_cons_zero,List.set_cons_succ]
  refine wpAnyH_take (i:=1) (oi:={ dst:=some 6,op:=.nilCheck (.tmp 5),type:=0,pos:= "canon.go:33",after:=#[{ on:=0,ground:=.data}],guard:=none}) (v:=?_) rfl (by kernel_rfl) (by kernel_rfl) (by kernel_rfl) (fun _ _ _ h=>h) (Or.inl ⟨by rfl,?_⟩) (by assumption) ?_
  rotate_left
  ·(intro w hSw;(try dsimp only at hSw);go_simp) <;> with_reducible rfl
  try simp only[Act.put,List.setIfInBounds_toArray,List.set_cons_zero,List.set_cons_succ]
  refine wpAnyH_take (i:=2) (oi:={ dst:=some 7,op:=.fieldAddr 135 (.tmp 6) 0,type:=0,pos:= "canon.go:33",after:=#[{ on:=1,ground:=.data}],guard:=none}) (v:=?_) rfl (by kernel_rfl) (by kernel_rfl) (by kernel_rfl) (fun _ _ _ h=>h) (Or.inl ⟨by rfl,?_⟩) (by assumption) ?_
  rotate_left
  ·(intro w hSw;(try dsimp only at hSw);go_simp) <;> with_reducible rfl
  try simp only[Act.put,List.setIfInBounds_toArray,List.set_cons_zero,List.set_cons_succ]
  refine wpAnyH_take (i:=3) (oi:={ dst:=some 8,op:=.fieldAddr 24 (.tmp 7) 0,type:=0,pos:= "canon.go:33",after:=#[{ on:=2,ground:=.data}],guard:=none}) (v:=?_) rfl (by kernel_rfl) (by kernel_rfl) (by kernel_rfl) (fun _ _ _ h=>h) (Or.inl ⟨by rfl,?_⟩) (by assumption) ?_
  rotate_left
  ·(intro w hSw;(try dsimp only at hSw);go_simp) <;> with_reducible rfl
  try simp only[Act.put,List.setIfInBounds_toArray,List.set_cons_zero,List.set_cons_succ]
  refine wpAnyH_take (i:=4) (oi:={ dst:=some 9,op:=.load 9 (.tmp 8),type:=9,pos:= "canon.go:33",after:=#[{ on:=3,ground:=.data}],guard:=none}) (v:=?_) rfl (by kernel_rfl) (by kernel_rfl) (by kernel_rfl) (fun _ _ _ h=>h) (Or.inl ⟨by rfl,?_⟩) (by assumption) ?_
  rotate_left
  ·(intro w hSw;(try dsimp only at hSw);go_simp) <;> with_reducible rfl
  try simp only[Act.put,List.setIfInBounds_toArray,List.set_cons_zero,List.set_cons_succ]
  refine wpAnyH_ready (rs:=[5]) (by kernel_rfl) (by simp) ?_
  refine AllReadyH.cons (o:={ dst:=some 10,op:=.call { callee:=.value (.func 129),args:=#[.const (.string ⟨#[83,85,66,32,65,78,68,32,88,79,82,32,79,82,32,67,80]⟩),.tmp 9],argTypes:=#[9,9]},type:=4,pos:= "canon.go:33",after:=#[{ on:=4,ground:=.data}],guard:=none}) rfl (fun K hK=>?_) AllReadyH.nil
  go_simp
  go_at_call 129
  refine (C1.out _ Hd.out).mono ?_
  rintro e w1 ⟨rfl,hb⟩
  have H1:=zz (Kw.out.after hb)
  have x0:=H1.out.1.cell 0 rfl
  have x1:=H1.out.1.cell 1 rfl
  clear hb
  refine hK.out _ _ ⟨x0,x1⟩ (fun iI=>?_)
  clear hK K hHeld
  try simp only[Act.put,List.setIfInBounds_toArray,List.set_cons_zero,List.set_cons_succ]
  refine wpAnyH_take (i:=6) (oi:={ dst:=some 11,op:=.move (.tmp 10),type:=4,pos:= "canon.go:33",after:=#[{ on:=5,ground:=.data},{ on:=5,ground:=.chain}],guard:=none}) (v:=?_) rfl (by kernel_rfl) (by kernel_rfl) (by kernel_rfl) (fun _ _ _ h=>h) (Or.inl ⟨by rfl,?_⟩) (by assumption) ?_
  rotate_left
  ·(intro w hSw;(try dsimp only at hSw);go_simp) <;> with_reducible rfl
  try simp only[Act.put,List.setIfInBounds_toArray,List.set_cons_zero,List.set_cons_succ]
 case' inl=>
  refine F8 (by kernel_rfl) (fun _ _ d _ h=>by cases d <;> exact h) (by assumption) [7,8,9,10,11,12,13] 13 rfl (by kernel_rfl) ⟨rfl,rfl,rfl,rfl,rfl,rfl,rfl,trivial⟩ ?_
 case' inr=>
  refine wpAnyH_take (i:=7) (oi:={ dst:=some 12,op:=.move (.tmp 0),type:=132,pos:= "canon.go:33",after:=#[{ on:=6,ground:=.guard}],guard:=some (6,true)}) (v:=?_) rfl (by kernel_rfl) (by kernel_rfl) (by kernel_rfl) (fun _ _ _ h=>h) (Or.inl ⟨by rfl,?_⟩) (by assumption) ?_
  rotate_left
  ·(intro w hSw;(try dsimp only at hSw);go_simp) <;> with_reducible rfl
  try simp only[Act.put,List.setIfInBounds_toArray,List.set_cons_zero,List.set_cons_succ]
  refine wpAnyH_take (i:=8) (oi:={ dst:=some 13,op:=.nilCheck (.tmp 12),type:=0,pos:= "canon.go:33",after:=#[{ on:=7,ground:=.data},{ on:=6,ground:=.guard}],guard:=some (6,true)}) (v:=?_) rfl (by kernel_rfl) (by kernel_rfl) (by kernel_rfl) (fun _ _ _ h=>h) (Or.inl ⟨by rfl,?_⟩) (by assumption) ?_
  rotate_left
  ·(intro w hSw;(try dsimp only at hSw);go_simp) <;> with_reducible rfl
  try simp only[Act.put,List.setIfInBounds_toArray,List.set_cons_zero,List.set_cons_succ]
  refine wpAnyH_take (i:=9) (oi:={ dst:=some 14,op:=.fieldAddr 135 (.tmp 13) 0,type:=0,pos:= "canon.go:33",after:=#[{ on:=8,ground:=.data},{ on:=6,ground:=.guard}],guard:=some (6,true)}) (v:=?_) rfl (by kernel_rfl) (by kernel_rfl) (by kernel_rfl) (fun _ _ _ h=>h) (Or.inl ⟨by rfl,?_⟩) (by assumption) ?_
  rotate_left
  ·(intro w hSw;(try dsimp only at hSw);go_simp) <;> with_reducible rfl
  try simp only[Act.put,List.setIfInBounds_toArray,List.set_cons_zero,List.set_cons_succ]
  refine wpAnyH_take (i:=10) (oi:={ dst:=some 15,op:=.fieldAddr 24 (.tmp 14) 1,type:=0,pos:= "canon.go:33",after:=#[{ on:=9,ground:=.data},{ on:=6,ground:=.guard}],guard:=some (6,true)}) (v:=?_) rfl (by kernel_rfl) (by kernel_rfl) (by kernel_rfl) (fun _ _ _ h=>h) (Or.inl ⟨by rfl,?_⟩) (by assumption) ?_
  rotate_left
  ·(intro w hSw;(try dsimp only at hSw);go_simp) <;> with_reducible rfl
  try simp only[Act.put,List.setIfInBounds_toArray,List.set_cons_zero,List.set_cons_succ]
  refine wpAnyH_take (i:=11) (oi:={ dst:=some 16,op:=.load 22 (.tmp 15),type:=22,pos:= "canon.go:33",after:=#[{ on:=10,ground:=.data},{ on:=6,ground:=.guard}],guard:=some (6,true)}) (v:=?_) rfl (by kernel_rfl) (by kernel_rfl) (by kernel_rfl) (fun _ _ _ h=>h) (Or.inl ⟨by rfl,?_⟩) (by assumption) ?_
  rotate_left
  ·(intro w hSw;(try dsimp only at hSw);go_simp) <;> with_reducible rfl
  try simp only[Act.put,List.setIfInBounds_toArray,List.set_cons_zero,List.set_cons_succ]
  refine wpAnyH_take (i:=12) (oi:={ dst:=some 17,op:=.call { callee:=.builtin .len,args:=#[.tmp 16],argTypes:=#[22]},type:=3,pos:= "canon.go:33",after:=#[{ on:=11,ground:=.data},{ on:=6,ground:=.guard}],guard:=some (6,true)}) (v:=?_) rfl (by kernel_rfl) (by kernel_rfl) (by kernel_rfl) (fun _ _ _ h=>h) (Or.inl ⟨by rfl,?_⟩) (by assumption) ?_
  rotate_left
  ·(intro w hSw;(try dsimp only at hSw);go_simp) <;> with_reducible rfl
  try simp only[Act.put,List.setIfInBounds_toArray,List.set_cons_zero,List.set_cons_succ]
  refine wpAnyH_take (i:=13) (oi:={ dst:=some 18,op:=.binOp .eql 3 (.tmp 17) (.const (.int .i64 2)) 3,type:=4,pos:= "canon.go:33",after:=#[{ on:=12,ground:=.data},{ on:=6,ground:=.guard}],guard:=some (6,true)}) (v:=?_) rfl (by kernel_rfl) (by kernel_rfl) (by kernel_rfl) (fun _ _ _ h=>h) (Or.inl ⟨by rfl,?_⟩) (by assumption) ?_
  rotate_left
  ·(intro w hSw;(try dsimp only at hSw);go_simp) <;> with_reducible rfl
  try simp only[Act.put,List.setIfInBounds_toArray,List.set_cons_zero,List.set_cons_succ]
 all_goals
  refine wpAnyH_take (i:=14) (oi:={ dst:=some 19,op:=.pick (.tmp 11) (.tmp 18) (.const (.bool false)),type:=4,pos:= "canon.go:33",after:=#[{ on:=6,ground:=.data},{ on:=13,ground:=.data}],guard:=none}) (v:=?_) rfl (by kernel_rfl) (by kernel_rfl) (by kernel_rfl) (fun _ _ _ h=>h) (Or.inl ⟨by rfl,?_⟩) (by assumption) ?_
  rotate_left
  ·(intro w hSw;(try dsimp only at hSw);go_simp) <;> with_reducible rfl
  try simp only[Act.put,List.setIfInBounds_toArray,List.set_cons_zero,List.set_cons_succ]
  refine wpAnyH_take (i:=15) (oi:={ dst:=some 20,op:=.move (.tmp 19),type:=4,pos:= "canon.go:33",after:=#[{ on:=14,ground:=.data},{ on:=6,ground:=.chain}],guard:=none}) (v:=?_) rfl (by kernel_rfl) (by kernel_rfl) (by kernel_rfl) (fun _ _ _ h=>h) (Or.inl ⟨by rfl,?_⟩) (by assumption) ?_
  rotate_left
  ·(intro w hSw;(try dsimp only at hSw);go_simp) <;> with_reducible rfl
  try simp only[Act.put,List.setIfInBounds_toArray,List.set_cons_zero,List.set_cons_succ]
  refine F8 (by kernel_rfl) (fun _ _ d _ h=>by cases d <;> exact h) (by assumption) [16,17,18,19,20,21,22,23,24] 2 rfl (by kernel_rfl) ⟨rfl,rfl,rfl,rfl,rfl,rfl,rfl,rfl,rfl,trivial⟩ ?_
  refine wpAnyH_take (i:=25) (oi:={ dst:=some 30,op:=.pick (.tmp 20) (.tmp 29) (.const (.bool false)),type:=4,pos:= "canon.go:33",after:=#[{ on:=15,ground:=.data},{ on:=24,ground:=.data}],guard:=none}) (v:=?_) rfl (by kernel_rfl) (by kernel_rfl) (by kernel_rfl) (fun _ _ _ h=>h) (Or.inl ⟨by rfl,?_⟩) (by assumption) ?_
  rotate_left
  ·(intro w hSw;(try dsimp only at hSw);go_simp) <;> with_reducible rfl
  try simp only[Act.put,List.setIfInBounds_toArray,List.set_cons_zero,List.set_cons_succ]
  refine wpAnyH_take (i:=26) (oi:={ dst:=some 4,op:=.assign (.tmp 30),type:=4,pos:= "canon.go:33",after:=#[{ on:=25,ground:=.data},{ on:=15,ground:=.chain}],guard:=none}) (v:=?_) rfl (by kernel_rfl) (by kernel_rfl) (by kernel_rfl) (fun _ _ _ h=>h) (Or.inl ⟨by rfl,?_⟩) (by assumption) ?_
  rotate_left
  ·(intro w hSw;(try dsimp only at hSw);go_simp) <;> with_reducible rfl
  try simp only[Act.put,List.setIfInBounds_toArray,List.set_cons_zero,List.set_cons_succ]
  clear iI
  refine wpAnyH_done (by kernel_rfl) ?_ _
 all_goals
  clear g0 g1
  rcases HF2.out with e1 | ⟨e1,e2⟩
  all_goals
   subst e1
   clear HF2
   go_wp2_with (go_at_call 129;(with_reducible refine (C2.out _ H1.out.2.2.1).mono ?_);rintro e w2 ⟨rfl,hb⟩;have H2:=zz (H1.out.after hb);have y0:=H2.out.1.cell 0 rfl;have y1:=H2.out.1.cell 1 rfl;clear hb x0 x1)
   first | go_end0 | refine bodyPost_ret (results_none rfl _ _ _) rfl ?_
   exact⟨rfl,fin.out _ H2.out⟩
theorem Ow.first {w:World}{B:Nat}{A:Option Addr}{o:ay}{l:List ay}(h:Ow w B A (o::l)):∃q off,A=some ⟨q,off,none⟩∧B≤q∧w.cell? ⟨q,off,none⟩=some (.int .i64 o.1)∧w.cell? ⟨q,off+1,none⟩=some (.int .i64 o.2.1)∧w.cell? ⟨q,off+2,none⟩=some (.int .i64 o.2.2):=by
 obtain⟨q,off,hA,hq,c0,c1,c2,_⟩:=h.cells (k:=0) rfl
 exact⟨q,off,hA,hq,by simpa using c0,by simpa using c1,by simpa using c2⟩
theorem Ow.tail {w:World}{B q off:Nat}{o:ay}{l:List ay}(h:Ow w B (some ⟨q,off,none⟩) (o::l)):Ow w B (some ⟨q,off+3,none⟩) l:=fun hl=>by
 obtain⟨q',off',cur,T,hA,hB,hh,hc⟩:=h (by simp)
 obtain⟨rfl,rfl⟩:q=q'∧off=off':=by simpa using hA
 refine⟨q,off+3,cur,T,rfl,hB,hh,?_⟩
 rw[iN] at hc
 have:=congrArg (List.drop 3) hc
 rw[List.drop_take,List.drop_drop] at this
 simp only[List.drop_succ_cons,List.drop_zero,List.length_cons] at this
 rw[show (l.length+1) * 3 - 3=l.length * 3 by omega] at this
 exact this
set_option maxRecDepth 100000 in
theorem Fh (q off c:Nat)(w:World)(h:2≤c):(Instr.sliceAt 22 (.slice (some ⟨q,off,none⟩) 2 c) (some (.int .i64 1)) none none).run Tryz.prog w= .ok (.slice (some ⟨q,off+3,none⟩) 1 (c - 1)) w:=by
 have h1:=CU ND (some ⟨q,off,none⟩) 2 c 1 w (by omega)
 have e:cutAt (some ⟨q,off,none⟩) c 1 3=some ⟨q,off+3,none⟩:=by
  unfold cutAt
  rw[if_neg (by omega)]
  simp[y7]
 rw[run_sliceAt_slice w _ _ _ _ _ Tryz.underlying22]
 rw[e] at h1
 exact h1
set_option maxHeartbeats 4000000 in
theorem ahE (B b:Nat)(nm:List Nat)(A:Option Addr)(x y:ay)(c:Nat)(w:World)(hk:Bk w b 135 [.string (aa nm),.slice A 2 c])(ho:Ow w B A [x,y])(hc:2≤c)(hB:B≤w.heap.size)
 (C1:dX w XI nm true) (C2:dX w afA nm false) (h1:x≠(1,7,0)):
 Calls Tryz.prog 69 #[.pointer (some ⟨b,0,none⟩)] w fun e w'=>e= .returned (.tuple #[])∧Wr B b nm [x,y] w'∧Below B w w':=by
 have C1:=zz C1
 have C2:=zz C2
 have H0:Hid (NZ w B b nm A 2 c [x,y] w.heap.size (w.alloc (.cells #[.int .i64 1,.int .i64 7,.int .i64 0] 65))):=⟨hk.alloc _,ho.alloc _,(zo _ _).alloc (zu _) _,Bk.new w 65 [.int .i64 1,.int .i64 7,.int .i64 0]⟩
 have fin:Hid (∀W,NZ w B b nm A 2 c [x,y] w.heap.size W→(Wr B b nm [x,y] W∧Below B w W)):=fun W hW=>⟨⟨A,2,c,hW.1,hW.2.1,rfl,hc⟩,hW.2.2.1.mono hB⟩
 have HF:Hid (((x.1 == 1)=false)∨((x.1 == 1)=true∧(x.2.1 == 7)=false)∨((x.1 == 1)=true∧(x.2.1 == 7)=true∧(x.2.2 == 0)=false)):=by
  obtain⟨x0,x1,x2⟩:=x
  show ((x0 == 1)=false)∨((x0 == 1)=true∧(x1 == 7)=false)∨((x0 == 1)=true∧(x1 == 7)=true∧(x2 == 0)=false)
  cases e0:(x0 == 1)
  ·exact .inl rfl
  ·cases e1:(x1 == 7)
   ·exact .inr (.inl ⟨rfl,rfl⟩)
   ·cases e2:(x2 == 0)
    ·exact .inr (.inr ⟨rfl,rfl,rfl⟩)
    ·exact (h1 (by simp at e0 e1 e2;simp[e0,e1,e2])).elim
 have g0:=H0.out.1.cell 0 rfl
 have g1:=H0.out.1.cell 1 rfl
 have g2:=H0.out.2.2.2.cell 0 rfl
 have g3:=H0.out.2.2.2.cell 1 rfl
 have g4:=H0.out.2.2.2.cell 2 rfl
 obtain⟨q,off,rfl,_,c0,c1,c2⟩:=H0.out.2.1.first
 clear hk ho hc hB h1
 go_enter Tryz.func69,Tryz.ntmps69
 go_wp2
 generalize (w.alloc (.cells #[.int .i64 1,.int .i64 7,.int .i64 0] 65))=W0 at H0 g0 g1 g2 g3 g4 c0 c1 c2 ⊢
 have Hd:=zz (aM H0.out.2.2.1)
 have Kw:Hid (NZ w B b nm (some ⟨q,off,none⟩) 2 c [x,y] w.heap.size W0.drew):=⟨H0.out.1,H0.out.2.1,Hd.out,H0.out.2.2.2⟩
 have HX:=zz (Eq.refl x)
 obtain⟨x0,hx0⟩:∃x0,x.1=x0:=⟨_,rfl⟩
 obtain⟨x1,hx1⟩:∃x1,x.2.1=x1:=⟨_,rfl⟩
 obtain⟨x2,hx2⟩:∃x2,x.2.2=x2:=⟨_,rfl⟩
 rw[hx0] at c0
 rw[hx1] at c1
 rw[hx2] at c2
 rw[hx0,hx1,hx2] at HF
 have HX0:=zz hx0
 have HX1:=zz hx1
 have HX2:=zz hx2
 clear hx0 hx1 hx2
 rcases HF.out with d0 | ⟨d0,d1⟩ | ⟨d0,d1,d2⟩ <;> clear HF <;>
 first | (go_region_held3 (fun w'=>w'.cell? ⟨b,0,none⟩=some (.string (aa nm))∧w'.cell? ⟨b,1,none⟩=some (.slice (some ⟨q,off,none⟩) 2 c)∧w'.cell? ⟨w.heap.size,0,none⟩=some (.int .i64 1)∧w'.cell? ⟨w.heap.size,1,none⟩=some (.int .i64 7)∧w'.cell? ⟨w.heap.size,2,none⟩=some (.int .i64 0)∧w'.cell? ⟨q,off,none⟩=some (.int .i64 x0)∧w'.cell? ⟨q,off+1,none⟩=some (.int .i64 x1)∧w'.cell? ⟨q,off+2,none⟩=some (.int .i64 x2)) (first | assumption | go_keep) (first
  |(go_at_call 129;(with_reducible refine (C1.out _ Hd.out).mono ?_);rintro e w1 ⟨rfl,hb⟩;have H1:=zz (Kw.out.after hb);have z0:=H1.out.1.cell 0 rfl;have z1:=H1.out.1.cell 1 rfl;have z2:=H1.out.2.2.2.cell 0 rfl;have z3:=H1.out.2.2.2.cell 1 rfl;have z4:=H1.out.2.2.2.cell 2 rfl;have z5:=eB hb c0;have z6:=eB hb c1;have z7:=eB hb c2;clear hb))) | fail
 all_goals
  clear g0 g1 g2 g3 g4 c0 c1 c2
  go_wp2_with (go_at_call 129;(with_reducible refine (C2.out _ H1.out.2.2.1).mono ?_);rintro e w2 ⟨rfl,hb⟩;have H2:=zz (H1.out.after hb);have y0:=H2.out.1.cell 0 rfl;have y1:=H2.out.1.cell 1 rfl;clear hb z0 z1 z2 z3 z4 z5 z6 z7)
  first | go_end0 | refine bodyPost_ret (results_none rfl _ _ _) rfl ?_
  exact⟨rfl,fin.out _ H2.out⟩
theorem VR {B:Nat}{w2 W:World}{O:Obj}(h1:W.os=w2.os)(h2:W.tape=w2.tape)(h3:W.output=w2.output)(h4:W.heap=(w2.alloc O).heap)(hB:B≤w2.heap.size):Below B w2 W:=
 ⟨h1,h2,h3,by rw[h4];simp,fun k hk=>by rw[h4];exact Below.heap_alloc w2 O k (by omega)⟩
set_option maxHeartbeats 4000000 in
theorem aes (B b:Nat)(nm:List Nat)(A:Option Addr)(y:ay)(c:Nat)(w:World)(hk:Bk w b 135 [.string (aa nm),.slice A 2 c])(ho:Ow w B A [(1,7,0),y])(hc:2≤c)(hB:B≤w.heap.size)(hBb:B≤b)(hne:∀a,A=some a→a.block≠b)
 (C1:dX w XI nm true):
 Calls Tryz.prog 69 #[.pointer (some ⟨b,0,none⟩)] w fun e w'=>e= .returned (.tuple #[])∧Wr B b nm [y] w'∧Below B w w':=by
 have C1:=zz C1
 have H0:Hid (NZ w B b nm A 2 c [(1,7,0),y] w.heap.size (w.alloc (.cells #[.int .i64 1,.int .i64 7,.int .i64 0] 65))):=⟨hk.alloc _,ho.alloc _,(zo _ _).alloc (zu _) _,Bk.new w 65 [.int .i64 1,.int .i64 7,.int .i64 0]⟩
 have g0:=H0.out.1.cell 0 rfl
 have g1:=H0.out.1.cell 1 rfl
 have g2:=H0.out.2.2.2.cell 0 rfl
 have g3:=H0.out.2.2.2.cell 1 rfl
 have g4:=H0.out.2.2.2.cell 2 rfl
 obtain⟨q,off,rfl,_,c0,c1,c2⟩:=H0.out.2.1.first
 have hne:q≠b:=hne _ rfl
 have fin:Hid (∀W,NZ w B b nm (some ⟨q,off,none⟩) 2 c [(1,7,0),y] w.heap.size W→(Wr B b nm [y] (W.setCell ⟨b,1,none⟩ (.slice (some ⟨q,off+3,none⟩) 1 (c - 1)))∧Below B w (W.setCell ⟨b,1,none⟩ (.slice (some ⟨q,off+3,none⟩) 1 (c - 1))))):=fun W hW=>
  ⟨⟨_,1,c - 1,hW.1.set 1 _,(hW.2.1.tail).ne (fun _ a ha=>by obtain rfl:=zx ha;exact hne) _,rfl,by omega⟩,(hW.2.2.1.mono hB).setCell hBb _⟩
 have hsl:=fun W=>Fh q off c W hc
 have hw2:IntKind.i64.wrap 1=1:=by decide
 clear hk ho hc hB hne hBb
 go_enter Tryz.func69,Tryz.ntmps69
 go_wp2
 generalize (w.alloc (.cells #[.int .i64 1,.int .i64 7,.int .i64 0] 65))=W0 at H0 g0 g1 g2 g3 g4 c0 c1 c2 ⊢
 have Hd:=zz (aM H0.out.2.2.1)
 have Kw:Hid (NZ w B b nm (some ⟨q,off,none⟩) 2 c [(1,7,0),y] w.heap.size W0.drew):=⟨H0.out.1,H0.out.2.1,Hd.out,H0.out.2.2.2⟩
 first | (go_region_held3 (fun w'=>w'.cell? ⟨b,0,none⟩=some (.string (aa nm))∧w'.cell? ⟨b,1,none⟩=some (.slice (some ⟨q,off,none⟩) 2 c)∧w'.cell? ⟨w.heap.size,0,none⟩=some (.int .i64 1)∧w'.cell? ⟨w.heap.size,1,none⟩=some (.int .i64 7)∧w'.cell? ⟨w.heap.size,2,none⟩=some (.int .i64 0)∧w'.cell? ⟨q,off,none⟩=some (.int .i64 1)∧w'.cell? ⟨q,off+1,none⟩=some (.int .i64 7)∧w'.cell? ⟨q,off+2,none⟩=some (.int .i64 0)) (first | assumption | go_keep) (first
  |(go_at_call 129;(with_reducible refine (C1.out _ Hd.out).mono ?_);rintro e w1 ⟨rfl,hb⟩;have H1:=zz (Kw.out.after hb);have z0:=H1.out.1.cell 0 rfl;have z1:=H1.out.1.cell 1 rfl;have z2:=H1.out.2.2.2.cell 0 rfl;have z3:=H1.out.2.2.2.cell 1 rfl;have z4:=H1.out.2.2.2.cell 2 rfl;have z5:=eB hb c0;have z6:=eB hb c1;have z7:=eB hb c2;have fz1:=H1.out.1.frozen 1;clear hb))) | fail
 all_goals
  clear g0 g1 g2 g3 g4 c0 c1 c2
  go_wp2
  first | go_end0 | refine bodyPost_ret (results_none rfl _ _ _) rfl ?_
  exact⟨rfl,fin.out _ H1.out⟩
set_option maxHeartbeats 4000000 in
theorem ahD (B b:Nat)(nm:List Nat)(A:Option Addr)(y:ay)(c:Nat)(w:World)(hk:Bk w b 135 [.string (aa nm),.slice A 1 c])(ho:Ow w B A [y])(hB:B≤w.heap.size)(hBb:B≤b)
 (C1:dX w XI nm false) (C2:dX w afA nm true):
 Calls Tryz.prog 69 #[.pointer (some ⟨b,0,none⟩)] w fun e w'=>e= .returned (.tuple #[])∧Wr B b nm [(1,7,0),y] w'∧Below B w w':=by
 have C1:=zz C1
 have C2:=zz C2
 have H0:Hid (NZ w B b nm A 1 c [y] w.heap.size (w.alloc (.cells #[.int .i64 1,.int .i64 7,.int .i64 0] 65))):=⟨hk.alloc _,ho.alloc _,(zo _ _).alloc (zu _) _,Bk.new w 65 [.int .i64 1,.int .i64 7,.int .i64 0]⟩
 have g0:=H0.out.1.cell 0 rfl
 have g1:=H0.out.1.cell 1 rfl
 obtain⟨q,off,rfl,_,_,_,_⟩:=H0.out.2.1.first
 have hbw:b < w.heap.size:=hk.lt
 have fin:Hid (∀W W',NZ w B b nm (some ⟨q,off,none⟩) 1 c [y] w.heap.size W→W'.heap=(W.alloc (.cells #[.int .i64 1,.int .i64 7,.int .i64 0,.int .i64 y.1,.int .i64 y.2.1,.int .i64 y.2.2] 65)).heap→Below w.heap.size w W'→(Wr B b nm [(1,7,0),y] (W'.setCell ⟨b,1,none⟩ (.slice (some ⟨W.heap.size,0,none⟩) 2 2))∧Below B w (W'.setCell ⟨b,1,none⟩ (.slice (some ⟨W.heap.size,0,none⟩) 2 2)))):=fun W W' hW he hb=>by
  have hk1:Bk W' b 135 [.string (aa nm),.slice (some ⟨q,off,none⟩) 1 c]:=by
   have:=hW.1.alloc (.cells #[.int .i64 1,.int .i64 7,.int .i64 0,.int .i64 y.1,.int .i64 y.2.1,.int .i64 y.2.2] 65)
   unfold Bk at this ⊢
   rw[he]
   exact this
  have hs:=hW.2.2.1.size
  refine⟨⟨_,2,2,hk1.set 1 _,fun _=>⟨W.heap.size,0,#[.int .i64 1,.int .i64 7,.int .i64 0,.int .i64 y.1,.int .i64 y.2.1,.int .i64 y.2.2],65,rfl,by omega,?_,rfl⟩,rfl,zu _⟩,(hb.mono hB).setCell hBb _⟩
  rw[Below.heap_setCell _ _ _ _ (by show W.heap.size≠b;omega),he]
  exact heap_alloc_new W _
 clear hk ho hB hBb
 go_enter Tryz.func69,Tryz.ntmps69
 go_wp2
 generalize (w.alloc (.cells #[.int .i64 1,.int .i64 7,.int .i64 0] 65))=W0 at H0 g0 g1 ⊢
 have Hd:=zz (aM H0.out.2.2.1)
 have Kw:Hid (NZ w B b nm (some ⟨q,off,none⟩) 1 c [y] w.heap.size W0.drew):=⟨H0.out.1,H0.out.2.1,Hd.out,H0.out.2.2.2⟩
 refine wp_region_held_drew (S:=fun w'=>w'.cell? ⟨b,0,none⟩=some (.string (aa nm))∧w'.cell? ⟨b,1,none⟩=some (.slice (some ⟨q,off,none⟩) 1 c)) (by kernel_rfl) ⟨Kw.out.1.cell 0 rfl,Kw.out.1.cell 1 rfl⟩ (fun hHeld=>?_)
 refine wpAnyH_take (i:=0) (oi:={ dst:=some 5,op:=.move (.tmp 0),type:=132,pos:= "canon.go:33",after:=#[],guard:=none}) (v:=?_) rfl (by kernel_rfl) (by kernel_rfl) (by kernel_rfl) (fun _ _ _ h=>h) (Or.inl ⟨by rfl,?_⟩) (by assumption) ?_
 rotate_left
 ·(intro w hSw;(try dsimp only at hSw);go_simp) <;> with_reducible rfl
 try simp only[Act.put,List.setIfInBounds_toArray,List.set_cons_zero,List.set_cons_succ]
 refine wpAnyH_take (i:=1) (oi:={ dst:=some 6,op:=.nilCheck (.tmp 5),type:=0,pos:= "canon.go:33",after:=#[{ on:=0,ground:=.data}],guard:=none}) (v:=?_) rfl (by kernel_rfl) (by kernel_rfl) (by kernel_rfl) (fun _ _ _ h=>h) (Or.inl ⟨by rfl,?_⟩) (by assumption) ?_
 rotate_left
 ·(intro w hSw;(try dsimp only at hSw);go_simp) <;> with_reducible rfl
 try simp only[Act.put,List.setIfInBounds_toArray,List.set_cons_zero,List.set_cons_succ]
 refine wpAnyH_take (i:=2) (oi:={ dst:=some 7,op:=.fieldAddr 135 (.tmp 6) 0,type:=0,pos:= "canon.go:33",after:=#[{ on:=1,ground:=.data}],guard:=none}) (v:=?_) rfl (by kernel_rfl) (by kernel_rfl) (by kernel_rfl) (fun _ _ _ h=>h) (Or.inl ⟨by rfl,?_⟩) (by assumption) ?_
 rotate_left
 ·(intro w hSw;(try dsimp only at hSw);go_simp) <;> with_reducible rfl
 try simp only[Act.put,List.setIfInBounds_toArray,List.set_cons_zero,List.set_cons_succ]
 refine wpAnyH_take (i:=3) (oi:={ dst:=some 8,op:=.fieldAddr 24 (.tmp 7) 0,type:=0,pos:= "canon.go:33",after:=#[{ on:=2,ground:=.data}],guard:=none}) (v:=?_) rfl (by kernel_rfl) (by kernel_rfl) (by kernel_rfl) (fun _ _ _ h=>h) (Or.inl ⟨by rfl,?_⟩) (by assumption) ?_
 rotate_left
 ·(intro w hSw;(try dsimp only at hSw);go_simp) <;> with_reducible rfl
 try simp only[Act.put,List.setIfInBounds_toArray,List.set_cons_zero,List.set_cons_succ]
 refine wpAnyH_take (i:=4) (oi:={ dst:=some 9,op:=.load 9 (.tmp 8),type:=9,pos:= "canon.go:33",after:=#[{ on:=3,ground:=.data}],guard:=none}) (v:=?_) rfl (by kernel_rfl) (by kernel_rfl) (by kernel_rfl) (fun _ _ _ h=>h) (Or.inl ⟨by rfl,?_⟩) (by assumption) ?_
 rotate_left
 ·(intro w hSw;(try dsimp only at hSw);go_simp) <;> with_reducible rfl
 try simp only[Act.put,List.setIfInBounds_toArray,List.set_cons_zero,List.set_cons_succ]
 refine wpAnyH_ready (rs:=[5]) (by kernel_rfl) (by simp) ?_
 refine AllReadyH.cons (o:={ dst:=some 10,op:=.call { callee:=.value (.func 129),args:=#[.const (.string ⟨#[83,85,66,32,65,78,68,32,88,79,82,32,79,82,32,67,80]⟩),.tmp 9],argTypes:=#[9,9]},type:=4,pos:= "canon.go:33",after:=#[{ on:=4,ground:=.data}],guard:=none}) rfl (fun K hK=>?_) AllReadyH.nil
 go_simp
 go_at_call 129
 refine (C1.out _ Hd.out).mono ?_
 rintro e w1 ⟨rfl,hb⟩
 have H1:=zz (Kw.out.after hb)
 have z0:=H1.out.1.cell 0 rfl
 have z1:=H1.out.1.cell 1 rfl
 clear hb
 refine hK.out _ _ ⟨z0,z1⟩ (fun iI=>?_)
 clear hK K hHeld
 try simp only[Act.put,List.setIfInBounds_toArray,List.set_cons_zero,List.set_cons_succ]
 refine wpAnyH_take (i:=6) (oi:={ dst:=some 11,op:=.move (.tmp 10),type:=4,pos:= "canon.go:33",after:=#[{ on:=5,ground:=.data},{ on:=5,ground:=.chain}],guard:=none}) (v:=?_) rfl (by kernel_rfl) (by kernel_rfl) (by kernel_rfl) (fun _ _ _ h=>h) (Or.inl ⟨by rfl,?_⟩) (by assumption) ?_
 rotate_left
 ·(intro w hSw;(try dsimp only at hSw);go_simp) <;> with_reducible rfl
 try simp only[Act.put,List.setIfInBounds_toArray,List.set_cons_zero,List.set_cons_succ]
 refine F8 (by kernel_rfl) (fun _ _ d _ h=>by cases d <;> exact h) (by assumption) [7,8,9,10,11,12,13] 13 rfl (by kernel_rfl) ⟨rfl,rfl,rfl,rfl,rfl,rfl,rfl,trivial⟩ ?_
 refine wpAnyH_take (i:=14) (oi:={ dst:=some 19,op:=.pick (.tmp 11) (.tmp 18) (.const (.bool false)),type:=4,pos:= "canon.go:33",after:=#[{ on:=6,ground:=.data},{ on:=13,ground:=.data}],guard:=none}) (v:=?_) rfl (by kernel_rfl) (by kernel_rfl) (by kernel_rfl) (fun _ _ _ h=>h) (Or.inl ⟨by rfl,?_⟩) (by assumption) ?_
 rotate_left
 ·(intro w hSw;(try dsimp only at hSw);go_simp) <;> with_reducible rfl
 try simp only[Act.put,List.setIfInBounds_toArray,List.set_cons_zero,List.set_cons_succ]
 refine wpAnyH_take (i:=15) (oi:={ dst:=some 20,op:=.move (.tmp 19),type:=4,pos:= "canon.go:33",after:=#[{ on:=14,ground:=.data},{ on:=6,ground:=.chain}],guard:=none}) (v:=?_) rfl (by kernel_rfl) (by kernel_rfl) (by kernel_rfl) (fun _ _ _ h=>h) (Or.inl ⟨by rfl,?_⟩) (by assumption) ?_
 rotate_left
 ·(intro w hSw;(try dsimp only at hSw);go_simp) <;> with_reducible rfl
 try simp only[Act.put,List.setIfInBounds_toArray,List.set_cons_zero,List.set_cons_succ]
 refine F8 (by kernel_rfl) (fun _ _ d _ h=>by cases d <;> exact h) (by assumption) [16,17,18,19,20,21,22,23,24] 2 rfl (by kernel_rfl) ⟨rfl,rfl,rfl,rfl,rfl,rfl,rfl,rfl,rfl,trivial⟩ ?_
 refine wpAnyH_take (i:=25) (oi:={ dst:=some 30,op:=.pick (.tmp 20) (.tmp 29) (.const (.bool false)),type:=4,pos:= "canon.go:33",after:=#[{ on:=15,ground:=.data},{ on:=24,ground:=.data}],guard:=none}) (v:=?_) rfl (by kernel_rfl) (by kernel_rfl) (by kernel_rfl) (fun _ _ _ h=>h) (Or.inl ⟨by rfl,?_⟩) (by assumption) ?_
 rotate_left
 ·(intro w hSw;(try dsimp only at hSw);go_simp) <;> with_reducible rfl
 try simp only[Act.put,List.setIfInBounds_toArray,List.set_cons_zero,List.set_cons_succ]
 refine wpAnyH_take (i:=26) (oi:={ dst:=some 4,op:=.assign (.tmp 30),type:=4,pos:= "canon.go:33",after:=#[{ on:=25,ground:=.data},{ on:=15,ground:=.chain}],guard:=none}) (v:=?_) rfl (by kernel_rfl) (by kernel_rfl) (by kernel_rfl) (fun _ _ _ h=>h) (Or.inl ⟨by rfl,?_⟩) (by assumption) ?_
 rotate_left
 ·(intro w hSw;(try dsimp only at hSw);go_simp) <;> with_reducible rfl
 try simp only[Act.put,List.setIfInBounds_toArray,List.set_cons_zero,List.set_cons_succ]
 clear iI
 refine wpAnyH_done (by kernel_rfl) ?_ _
 all_goals
  clear g0 g1
  go_wp2_with (go_at_call 129;(with_reducible refine (C2.out _ H1.out.2.2.1).mono ?_);rintro e w2 ⟨rfl,hb⟩;have H2:=zz (H1.out.after hb);have y0:=H2.out.1.cell 0 rfl;have y1:=H2.out.1.cell 1 rfl;have y2:=H2.out.2.2.2.cell 0 rfl;have y3:=H2.out.2.2.2.cell 1 rfl;have y4:=H2.out.2.2.2.cell 2 rfl;have fy1:=H2.out.1.frozen 1;obtain⟨q',off',hq',_,v0,v1,v2⟩:=H2.out.2.1.first;obtain⟨rfl,rfl⟩:q=q'∧off=off':=(by simpa using hq');clear hb hq' z0 z1)
  generalize hy0:y.1=x0 at v0
  generalize hy1:y.2.1=x1 at v1
  generalize hy2:y.2.2=x2 at v2
  have Hy:=zz (zy hy0 (zy hy1 hy2))
  clear hy0 hy1 hy2
  have ya1:=jY (.cells #[.int .i64 1,.int .i64 7,.int .i64 0,.int .i64 x0,.int .i64 x1,.int .i64 x2] 65) y1
  have fa1:=(H2.out.1.alloc (.cells #[.int .i64 1,.int .i64 7,.int .i64 0,.int .i64 x0,.int .i64 x1,.int .i64 x2] 65)).frozen 1
  go_region
  all_goals
   go_wp2
   first | go_end0 | refine bodyPost_ret (results_none rfl _ _ _) rfl ?_
   refine⟨rfl,?_⟩
   rw[← Hy.out.1,← Hy.out.2.1,← Hy.out.2.2]
   have hfin:=fin.out w2 (w2.alloc (.cells #[.int .i64 1,.int .i64 7,.int .i64 0,.int .i64 y.1,.int .i64 y.2.1,.int .i64 y.2.2] 65)) H2.out rfl (H2.out.2.2.1.trans (VR (w2:=w2) rfl rfl rfl rfl H2.out.2.2.1.size))
   exact⟨hfin.1,aM hfin.2⟩
theorem q9:∀{l m:List Nat},(∀x∈l,x < 256)→(∀x∈m,x < 256)→D7 l m=true→l=m
 |[],[],_,_,_=>rfl
 |[],_::_,_,_,h=>by cases h
 |_::_,[],_,_,h=>by cases h
 |x::l,y::m,h1,h2,h=>by
  unfold D7 at h
  have a1:=h1 x zn
  have a2:=h2 y zn
  cases hb:Nat.beq (bN x) (bN y) with
  |false=>rw[hb] at h;cases h
  |true=>
   rw[hb] at h
   have:=(beq_iff _ _).1 hb
   unfold bN at this
   rw[q9 (fun z hz=>h1 z (List.mem_cons_of_mem _ hz)) (fun z hz=>h2 z (List.mem_cons_of_mem _ hz)) h,show x=y by omega]
set_option maxHeartbeats 4000000 in
theorem ahh (B b:Nat)(nm:List Nat)(A:Option Addr)(l:List ay)(n c:Nat)(w:World)(hk:Bk w b 135 [.string (aa nm),.slice A n c])(ho:Ow w B A l)(hn:n=l.length)(hc:n≤c)(hB:B≤w.heap.size)(h1:nm≠[69,88])(hnm:∀x∈nm,x < 256):
 Calls Tryz.prog 70 #[.pointer (some ⟨b,0,none⟩)] w fun e w'=>e= .returned (.tuple #[])∧Wr B b nm l w'∧Below B w w':=by
 have H0:Hid (Bk ((w.alloc (.cells #[.int .i64 3,.int .i64 2,.int .i64 0] 65)).alloc (.cells #[.int .i64 3,.int .i64 1,.int .i64 0] 65)) b 135 [.string (aa nm),.slice A n c]∧(Wr B b nm l ((w.alloc (.cells #[.int .i64 3,.int .i64 2,.int .i64 0] 65)).alloc (.cells #[.int .i64 3,.int .i64 1,.int .i64 0] 65))∧Below B w ((w.alloc (.cells #[.int .i64 3,.int .i64 2,.int .i64 0] 65)).alloc (.cells #[.int .i64 3,.int .i64 1,.int .i64 0] 65)))):=
  ⟨(hk.alloc _).alloc _,⟨A,n,c,(hk.alloc _).alloc _,(ho.alloc _).alloc _,hn,hc⟩,(((zo _ _).alloc (zu _) _).alloc (by simp) _).mono hB⟩
 have g0:=H0.out.1.cell 0 rfl
 have g1:=H0.out.1.cell 1 rfl
 have e1:((aa nm).toList == [69,88])=false:=by
  have e:([69,88]:List UInt8)=(aa [69,88]).toList:=(ll [69,88]).symm
  rw[e,lq]
  cases he:D7 nm [69,88] with
  |false=>rfl
  |true=>exact (h1 (q9 hnm (by decide) he)).elim
 clear hk ho hn hc hB h1
 go_enter Tryz.func70,Tryz.ntmps70
 go_wp2
 generalize ((w.alloc (.cells #[.int .i64 3,.int .i64 2,.int .i64 0] 65)).alloc (.cells #[.int .i64 3,.int .i64 1,.int .i64 0] 65))=W0 at H0 g0 g1 ⊢
 go_quiet (fail)
 all_goals
  go_wp2
  first | go_end0 | refine bodyPost_ret (results_none rfl _ _ _) rfl ?_
  exact⟨rfl,H0.out.2.1,H0.out.2.2.trans (aU _ _ _)⟩
def oV (w:World)(q off:Nat)(vs:List Value):Prop:=∃cur T,w.heap[q]? =some (.cells cur T (0,0))∧(cur.toList.drop off).take vs.length=vs
theorem oV.get {w:World}{q off:Nat}{vs:List Value}(h:oV w q off vs){j:Nat}{u:Value}(hu:vs[j]? =some u):w.cell? ⟨q,off+j,none⟩=some u∧w.frozen? ⟨q,off+j,none⟩=false:=by
 obtain⟨cur,T,hh,hc⟩:=h
 have hj:j < vs.length:=(List.getElem?_eq_some_iff.1 hu).1
 refine⟨?_,by simp[World.frozen?,hh]⟩
 rw[← hc,List.getElem?_take,if_pos hj,List.getElem?_drop] at hu
 simp only[World.cell?,hh]
 simpa using hu
theorem oV.set {w:World}{q off:Nat}{vs:List Value}(h:oV w q off vs){j:Nat}(hj:j < vs.length)(u:Value):oV (w.setCell ⟨q,off+j,none⟩ u) q off (vs.set j u):=by
 obtain⟨cur,T,hh,hc⟩:=h
 have hq:q < w.heap.size:=gU hh
 have hh':w.heap[q]= .cells cur T (0,0):=by simpa [Array.getElem?_eq_getElem hq] using hh
 have hlen:vs.length≤cur.toList.length - off:=by
  have:=congrArg List.length hc
  rw[List.length_take,List.length_drop] at this
  omega
 refine⟨cur.setIfInBounds (off+j) u,T,?_,?_⟩
 ·show (w.heap.modify q _)[q]? =_
  rw[Array.getElem?_eq_getElem (by simpa using hq),Array.getElem_modify_self,hh']
  first | rfl | simp
 ·rw[List.length_set]
  apply List.ext_getElem?
  intro i
  have hi:(vs[i]? :Option Value)=((cur.toList.drop off).take vs.length)[i]?:=by rw[hc]
  rw[List.getElem?_set]
  simp only[Array.toList_setIfInBounds,List.getElem?_take,List.getElem?_drop,List.getElem?_set] at hi ⊢
  by_cases h1:i < vs.length
  ·rw[if_pos h1] at hi ⊢
   by_cases h2:j=i
   ·subst h2
    rw[if_pos rfl,if_pos rfl,if_pos h1,if_pos (by simp at hlen ⊢;omega)]
   ·rw[if_neg (by omega),if_neg h2,hi]
  ·rw[if_neg h1] at hi ⊢
   by_cases h2:j=i
   ·omega
   ·rw[if_neg h2,hi]
theorem oV.drew {w:World}{q off:Nat}{vs:List Value}(h:oV w q off vs):oV w.drew q off vs:=h
theorem Bk.drew {w:World}{b:Nat}{T:TypeId}{vs:List Value}(h:Bk w b T vs):Bk w.drew b T vs:=h
theorem Ow.awv {w:World}{B q off:Nat}{l:List ay}(hl:l≠[])(h:Ow w B (some ⟨q,off,none⟩) l):oV w q off (bE l)∧B≤q:=by
 obtain⟨q',off',cur,T,hA,hB,hh,hc⟩:=h hl
 obtain⟨rfl,rfl⟩:q=q'∧off=off':=by simpa using hA
 exact⟨⟨cur,T,hh,by rw[gZ];exact hc⟩,hB⟩
theorem oV.ow {w:World}{B q off:Nat}{l:List ay}(h:oV w q off (bE l))(hB:B≤q):Ow w B (some ⟨q,off,none⟩) l:=fun _=>by
 obtain⟨cur,T,hh,hc⟩:=h
 exact⟨q,off,cur,T,rfl,hB,hh,by rw[gZ] at hc;exact hc⟩
theorem oV.Tn {w:World}{q off:Nat}{vs vs':List Value}(h:oV w q off vs)(j a:Nat)(ha:a=off+j)(hj:j < vs.length)(u:Value)(hv:vs.set j u=vs'):oV (w.setCell ⟨q,a,none⟩ u) q off vs':=by
 subst ha
 subst hv
 exact h.set hj u
def wG (w:World)(q off:Nat)(x y:ay):World:=(((((w.setCell ⟨q,off,none⟩ (.int .i64 y.1)).setCell ⟨q,off+1,none⟩ (.int .i64 y.2.1)).setCell ⟨q,off+2,none⟩ (.int .i64 y.2.2)).setCell ⟨q,off+3,none⟩ (.int .i64 x.1)).setCell ⟨q,off+3+1,none⟩ (.int .i64 x.2.1)).setCell ⟨q,off+3+2,none⟩ (.int .i64 x.2.2)
theorem XK {w:World}{q off:Nat}{x y:ay}(hr:oV w q off (bE [x,y])):oV (wG w q off x y) q off (bE [y,x]):=by
 have r1:=hr.Tn (vs':=[.int .i64 y.1,.int .i64 x.2.1,.int .i64 x.2.2,.int .i64 y.1,.int .i64 y.2.1,.int .i64 y.2.2]) 0 off (by omega) (by simp[bE,o3v]) (.int .i64 y.1) rfl
 have r2:=r1.Tn (vs':=[.int .i64 y.1,.int .i64 y.2.1,.int .i64 x.2.2,.int .i64 y.1,.int .i64 y.2.1,.int .i64 y.2.2]) 1 (off+1) rfl (by simp) (.int .i64 y.2.1) rfl
 have r3:=r2.Tn (vs':=[.int .i64 y.1,.int .i64 y.2.1,.int .i64 y.2.2,.int .i64 y.1,.int .i64 y.2.1,.int .i64 y.2.2]) 2 (off+2) rfl (by simp) (.int .i64 y.2.2) rfl
 have r4:=r3.Tn (vs':=[.int .i64 y.1,.int .i64 y.2.1,.int .i64 y.2.2,.int .i64 x.1,.int .i64 y.2.1,.int .i64 y.2.2]) 3 (off+3) rfl (by simp) (.int .i64 x.1) rfl
 have r5:=r4.Tn (vs':=[.int .i64 y.1,.int .i64 y.2.1,.int .i64 y.2.2,.int .i64 x.1,.int .i64 x.2.1,.int .i64 y.2.2]) 4 (off+3+1) (by omega) (by simp) (.int .i64 x.2.1) rfl
 exact r5.Tn (vs':=bE [y,x]) 5 (off+3+2) (by omega) (by simp) (.int .i64 x.2.2) rfl
theorem Lf {w:World}{q off b:Nat}{x y:ay}{T:TypeId}{vs:List Value}(hb:b≠q)(hk:Bk w b T vs):Bk (wG w q off x y) b T vs:=(((((hk.other hb _).other hb _).other hb _).other hb _).other hb _).other hb _
theorem Lg {w:World}{q off B:Nat}{x y:ay}(hB:B≤q):Below B w (wG w q off x y):=(((((zo _ _).setCell hB _).setCell hB _).setCell hB _).setCell hB _).setCell hB _ |>.setCell hB _
set_option maxHeartbeats 4000000 in
theorem afV (B q off c:Nat)(x y:ay)(w:World)(h:Ow w B (some ⟨q,off,none⟩) [x,y]):
 Calls Tryz.prog 130 #[.slice (some ⟨q,off,none⟩) 2 c] w fun e w'=>e= .returned (.tuple #[])∧Ow w' B (some ⟨q,off,none⟩) [y,x]∧(∀b T vs,b≠q→Bk w b T vs→Bk w' b T vs)∧Below B w w':=by
 obtain⟨hr,hB⟩:=h.awv (by simp)
 obtain⟨x0,x1,x2⟩:=x
 obtain⟨y0,y1,y2⟩:=y
 have HR:=zz hr
 have c0:=(hr.get (j:=0) (u:=.int .i64 x0) rfl).1
 have c1:=(hr.get (j:=1) (u:=.int .i64 x1) rfl).1
 have c2:=(hr.get (j:=2) (u:=.int .i64 x2) rfl).1
 have c3:=(hr.get (j:=3) (u:=.int .i64 y0) rfl).1
 have c4:=(hr.get (j:=4) (u:=.int .i64 y1) rfl).1
 have c5:=(hr.get (j:=5) (u:=.int .i64 y2) rfl).1
 have f0:=(hr.get (j:=0) (u:=.int .i64 x0) rfl).2
 have f1:=(hr.get (j:=1) (u:=.int .i64 x1) rfl).2
 have f2:=(hr.get (j:=2) (u:=.int .i64 x2) rfl).2
 have f3:=(hr.get (j:=3) (u:=.int .i64 y0) rfl).2
 have f4:=(hr.get (j:=4) (u:=.int .i64 y1) rfl).2
 have f5:=(hr.get (j:=5) (u:=.int .i64 y2) rfl).2
 rw[Nat.add_zero] at c0 f0
 have r1:=(XK (x:=(x0,x1,x2)) (y:=(y0,y1,y2)) hr).drew
 have r2:=r1.ow (l:=[(y0,y1,y2),(x0,x1,x2)]) hB
 have fin:Hid (Ow (wG w q off (x0,x1,x2) (y0,y1,y2)).drew B (some ⟨q,off,none⟩) [(y0,y1,y2),(x0,x1,x2)]∧(∀b T vs,b≠q→Bk w b T vs→Bk (wG w q off (x0,x1,x2) (y0,y1,y2)).drew b T vs)∧Below B w (wG w q off (x0,x1,x2) (y0,y1,y2)).drew):=
  ⟨r2,fun b T vs hb hk=>(Lf (x:=(x0,x1,x2)) (y:=(y0,y1,y2)) (off:=off) hb hk).drew,aM (Lg hB)⟩
 clear r1 r2
 unfold wG at fin
 clear h hr
 go_enter Tryz.func130,Tryz.ntmps130
 go_wp2
 refine wp_loop_rounds 2 ?_
 rw[rounds_succ]
 go_wp2
 go_region
 all_goals
  go_wp2
  rw[rounds_succ]
  go_wp2
  first | go_end0 | refine bodyPost_ret (results_none rfl _ _ _) rfl ?_
  exact⟨rfl,fin.out⟩
abbrev aoI (w:World)(A:Option Addr)(n c:Nat)(r:Bool):Prop:=∀W,Below w.heap.size w W→Calls Tryz.prog 28 #[.slice A n c,.slice (some ⟨W.heap.size,0,none⟩) 2 2] (W.alloc (.cells #[.int .i64 3,.int .i64 2,.int .i64 0,.int .i64 3,.int .i64 1,.int .i64 0] 65)) fun e w'=>e= .returned (.bool r)∧Below (W.alloc (.cells #[.int .i64 3,.int .i64 2,.int .i64 0,.int .i64 3,.int .i64 1,.int .i64 0] 65)).heap.size (W.alloc (.cells #[.int .i64 3,.int .i64 2,.int .i64 0,.int .i64 3,.int .i64 1,.int .i64 0] 65)) w'
theorem an6 {w:World}{B:Nat}{A:Option Addr}{l:List ay}{n c:Nat}(hn:l.length=n)(hm:n≤3)(h:Ow w B A l):aoI w A n c (decide (l=[(3,2,0),(3,1,0)])):=fun W hW=>by
 have h1:=(h.after hW).after ((zo W.heap.size W).alloc (zu _) (.cells #[.int .i64 3,.int .i64 2,.int .i64 0,.int .i64 3,.int .i64 1,.int .i64 0] 65))
 exact OP A _ l [(3,2,0),(3,1,0)] n 2 c 2 _ _ (fun _=>True) hn rfl (by omega) h1.rd (Rd.new W #[.int .i64 3,.int .i64 2,.int .i64 0,.int .i64 3,.int .i64 1,.int .i64 0] 65 trivial)
theorem Kh {W w':World}{O:Obj}(h:Below (W.alloc O).heap.size (W.alloc O) w'):Below W.heap.size W w':=((zo W.heap.size W).alloc (zu _) O).trans (h.mono (by simp))
abbrev ExW (w:World)(B b:Nat)(A:Option Addr)(n c:Nat)(l:List ay)(P:Nat)(W:World):Prop:=Bk W b 135 [.string (aa [69,88]),.slice A n c]∧Ow W B A l∧Below w.heap.size w W∧Bk W P 65 [.int .i64 3,.int .i64 2,.int .i64 0]∧Bk W (P+1) 65 [.int .i64 3,.int .i64 1,.int .i64 0]
theorem ExW.after {w W W':World}{B b n c P:Nat}{A:Option Addr}{l:List ay}(h:ExW w B b A n c l P W)(hb:Below W.heap.size W W'):ExW w B b A n c l P W':=
 ⟨h.1.after hb,h.2.1.after hb,h.2.2.1.trans (hb.mono h.2.2.1.size),h.2.2.2.1.after hb,h.2.2.2.2.after hb⟩
set_option maxHeartbeats 4000000 in
theorem atU (B b:Nat)(A:Option Addr)(l:List ay)(n c:Nat)(w:World)(hk:Bk w b 135 [.string (aa [69,88]),.slice A n c])(ho:Ow w B A l)(hn:n=l.length)(hc:n≤c)(hm:l.length≤3)(hB:B≤w.heap.size)(hne:l≠[]→∀a,A=some a→a.block≠b):
 Calls Tryz.prog 70 #[.pointer (some ⟨b,0,none⟩)] w fun e w'=>e= .returned (.tuple #[])∧Wr B b [69,88] (iW [69,88] l) w'∧Below B w w':=by
 have H0:Hid (ExW w B b A n c l w.heap.size ((w.alloc (.cells #[.int .i64 3,.int .i64 2,.int .i64 0] 65)).alloc (.cells #[.int .i64 3,.int .i64 1,.int .i64 0] 65))):=
  ⟨(hk.alloc _).alloc _,(ho.alloc _).alloc _,((zo _ _).alloc (zu _) _).alloc (by simp) _,(Bk.new w 65 [.int .i64 3,.int .i64 2,.int .i64 0]).alloc _,by
    have:=Bk.new (w.alloc (.cells #[.int .i64 3,.int .i64 2,.int .i64 0] 65)) 65 [.int .i64 3,.int .i64 1,.int .i64 0]
    rwa [World.size_alloc] at this⟩
 have CE:=zz (an6 (c:=c) hn.symm (by omega) ho)
 have e1:((aa [69,88]).toList == [69,88])=true:=by
  rw[ll]
  rfl
 have g0:=H0.out.1.cell 0 rfl
 have g1:=H0.out.1.cell 1 rfl
 have g2:=H0.out.2.2.2.1.cell 0 rfl
 have g3:=H0.out.2.2.2.1.cell 1 rfl
 have g4:=H0.out.2.2.2.1.cell 2 rfl
 have g5:=H0.out.2.2.2.2.cell 0 rfl
 have g6:=H0.out.2.2.2.2.cell 1 rfl
 have g7:=H0.out.2.2.2.2.cell 2 rfl
 have HN:=zz (zy hn (zy hc hB))
 have HNE:=zz hne
 clear hk ho hn hc hm hB hne
 by_cases hl:l=[(3,2,0),(3,1,0)]
 ·subst hl
  have he:iW [69,88] [(3,2,0),(3,1,0)]=[(3,1,0),(3,2,0)]:=by simp[iW]
  rw[he]
  rw[decide_eq_true rfl] at CE
  obtain⟨q,off,rfl,hq,_⟩:=H0.out.2.1.first
  obtain rfl:n=2:=HN.out.1
  have HQ:Hid (b≠q∧B≤q):=⟨Ne.symm (HNE.out (by simp) _ rfl),hq⟩
  have CR:=zz (fun (W:World) h=>afV B q off c (3,2,0) (3,1,0) W h)
  clear he hq
  go_enter Tryz.func70,Tryz.ntmps70
  go_wp2
  generalize ((w.alloc (.cells #[.int .i64 3,.int .i64 2,.int .i64 0] 65)).alloc (.cells #[.int .i64 3,.int .i64 1,.int .i64 0] 65))=W0 at H0 g0 g1 g2 g3 g4 g5 g6 g7 ⊢
  have Hd:=zz (aM H0.out.2.2.1)
  have Kw:Hid (ExW w B b (some ⟨q,off,none⟩) 2 c [(3,2,0),(3,1,0)] w.heap.size W0.drew):=⟨H0.out.1,H0.out.2.1,Hd.out,H0.out.2.2.2⟩
  first | (go_region_held3 (fun w'=>w'.cell? ⟨b,0,none⟩=some (.string (aa [69,88]))∧w'.cell? ⟨b,1,none⟩=some (.slice (some ⟨q,off,none⟩) 2 c)∧w'.cell? ⟨w.heap.size,0,none⟩=some (.int .i64 3)∧w'.cell? ⟨w.heap.size,1,none⟩=some (.int .i64 2)∧w'.cell? ⟨w.heap.size,2,none⟩=some (.int .i64 0)∧w'.cell? ⟨w.heap.size+1,0,none⟩=some (.int .i64 3)∧w'.cell? ⟨w.heap.size+1,1,none⟩=some (.int .i64 1)∧w'.cell? ⟨w.heap.size+1,2,none⟩=some (.int .i64 0)) (first | assumption | go_keep) ((go_at_call 28;refine (CE.out _ Hd.out).mono ?_;rintro e w1 ⟨rfl,hb⟩;have H1:=zz (Kw.out.after (Kh hb));have z0:=H1.out.1.cell 0 rfl;have z1:=H1.out.1.cell 1 rfl;have z2:=H1.out.2.2.2.1.cell 0 rfl;have z3:=H1.out.2.2.2.1.cell 1 rfl;have z4:=H1.out.2.2.2.1.cell 2 rfl;have z5:=H1.out.2.2.2.2.cell 0 rfl;have z6:=H1.out.2.2.2.2.cell 1 rfl;have z7:=H1.out.2.2.2.2.cell 2 rfl;clear hb))) | fail
  all_goals
   go_wp2_with (go_at_call 130;refine (CR.out _ H1.out.2.1).mono ?_;rintro e w2 ⟨rfl,ho2,hk2,hb2⟩;have H2:=zz (zy ho2 (zy (hk2 _ _ _ HQ.out.1 H1.out.1) hb2));clear ho2 hk2 hb2)
   first | go_end0 | refine bodyPost_ret (results_none rfl _ _ _) rfl ?_
   exact⟨rfl,⟨_,2,c,H2.out.2.1,H2.out.1,rfl,HN.out.2.1⟩,(H1.out.2.2.1.mono HN.out.2.2).trans H2.out.2.2⟩
 ·have he:iW [69,88] l=l:=by simp[iW,hl]
  rw[he]
  rw[decide_eq_false hl] at CE
  clear he hl
  go_enter Tryz.func70,Tryz.ntmps70
  go_wp2
  generalize ((w.alloc (.cells #[.int .i64 3,.int .i64 2,.int .i64 0] 65)).alloc (.cells #[.int .i64 3,.int .i64 1,.int .i64 0] 65))=W0 at H0 g0 g1 g2 g3 g4 g5 g6 g7 ⊢
  have Hd:=zz (aM H0.out.2.2.1)
  have Kw:Hid (ExW w B b A n c l w.heap.size W0.drew):=⟨H0.out.1,H0.out.2.1,Hd.out,H0.out.2.2.2⟩
  first | (go_region_held3 (fun w'=>w'.cell? ⟨b,0,none⟩=some (.string (aa [69,88]))∧w'.cell? ⟨b,1,none⟩=some (.slice A n c)∧w'.cell? ⟨w.heap.size,0,none⟩=some (.int .i64 3)∧w'.cell? ⟨w.heap.size,1,none⟩=some (.int .i64 2)∧w'.cell? ⟨w.heap.size,2,none⟩=some (.int .i64 0)∧w'.cell? ⟨w.heap.size+1,0,none⟩=some (.int .i64 3)∧w'.cell? ⟨w.heap.size+1,1,none⟩=some (.int .i64 1)∧w'.cell? ⟨w.heap.size+1,2,none⟩=some (.int .i64 0)) (first | assumption | go_keep) ((go_at_call 28;refine (CE.out _ Hd.out).mono ?_;rintro e w1 ⟨rfl,hb⟩;have H1:=zz (Kw.out.after (Kh hb));have z0:=H1.out.1.cell 0 rfl;have z1:=H1.out.1.cell 1 rfl;have z2:=H1.out.2.2.2.1.cell 0 rfl;have z3:=H1.out.2.2.2.1.cell 1 rfl;have z4:=H1.out.2.2.2.1.cell 2 rfl;have z5:=H1.out.2.2.2.2.cell 0 rfl;have z6:=H1.out.2.2.2.2.cell 1 rfl;have z7:=H1.out.2.2.2.2.cell 2 rfl;clear hb))) | fail
  all_goals
   go_wp2
   first | go_end0 | refine bodyPost_ret (results_none rfl _ _ _) rfl ?_
   exact⟨rfl,⟨A,n,c,H1.out.1,H1.out.2.1,HN.out.1,HN.out.2.1⟩,H1.out.2.2.1.mono HN.out.2.2⟩
theorem yn {nm m:List Nat}(h1:∀x∈nm,x < 256)(h2:∀x∈m,x < 256):((aa nm).toList == m.map UInt8.ofNat)=decide (nm=m):=by
 rw[← ll m,lq]
 by_cases h:nm=m
 ·subst h
  rw[decide_eq_true rfl,oL]
 ·rw[decide_eq_false h]
  cases he:D7 nm m with
  |false=>rfl
  |true=>exact (h (q9 h1 h2 he)).elim
theorem KJ (nm:List Nat)(A:Option Addr)(n c:Nat)(w:World)(C3:dX w XJ nm true):
 Calls Tryz.prog 131 #[.agg #[.string (aa nm),.slice A n c]] w fun e w'=>e= .returned (.int .i64 0)∧Below w.heap.size w w':=by
 have C3:=zz C3
 have HA:Hid (Below w.heap.size w (w.alloc (.cells #[.string (aa nm),.slice A n c] 24))):=(zo _ _).alloc (zu _) _
 go_enter Tryz.func131,Tryz.ntmps131
 go_wp2_with (go_at_call 129;refine (C3.out _ HA.out).mono ?_;rintro e w1 ⟨rfl,hb⟩;have HB1:=zz (HA.out.trans (hb.mono HA.out.size));clear hb)
 go_ret
 exact⟨rfl,HB1.out⟩
theorem SA (nm:List Nat)(A:Option Addr)(n c:Nat)(w:World)(C3:dX w XJ nm false)(C4:dX w tJp nm true):
 Calls Tryz.prog 131 #[.agg #[.string (aa nm),.slice A n c]] w fun e w'=>e= .returned (.int .i64 2)∧Below w.heap.size w w':=by
 have C3:=zz C3
 have C4:=zz C4
 have HA:Hid (Below w.heap.size w (w.alloc (.cells #[.string (aa nm),.slice A n c] 24))):=(zo _ _).alloc (zu _) _
 have HK:=zz (Bk.new w 24 [.string (aa nm),.slice A n c])
 go_enter Tryz.func131,Tryz.ntmps131
 go_wp2_with (first
  |(go_at_call 129;(with_reducible refine (C3.out _ HA.out).mono ?_);rintro e w1 ⟨rfl,hb⟩;have HB1:=zz (HA.out.trans (hb.mono HA.out.size));have x0:=(HK.out.after hb).cell 0 rfl;clear hb)
  |(go_at_call 129;(with_reducible refine (C4.out _ HB1.out).mono ?_);rintro e w2 ⟨rfl,hb⟩;have HB2:=zz (HB1.out.trans (hb.mono HB1.out.size));clear hb))
 go_ret
 exact⟨rfl,HB2.out⟩
set_option maxHeartbeats 1000000 in
theorem KM (nm:List Nat)(hnm:∀x∈nm,x < 256)(A:Option Addr)(l:List ay)(n c:Nat)(w:World)(p:Nat→Prop)(hn:n=l.length)(hm:l.length≤3)(h:Rd w p A (bE l))(C3:dX w XJ nm false)(C4:dX w tJp nm false):
 Calls Tryz.prog 131 #[.agg #[.string (aa nm),.slice A n c]] w fun e w'=>e= .returned (.int .i64 (if decide (nm=[76,68]) && uC l then 2 else 1))∧Below w.heap.size w w':=by
 have C3:=zz C3
 have C4:=zz C4
 have HA:Hid (Below w.heap.size w (w.alloc (.cells #[.string (aa nm),.slice A n c] 24))):=(zo _ _).alloc (zu _) _
 have HK:=zz (Bk.new w 24 [.string (aa nm),.slice A n c])
 have e1:((aa nm).toList == [76,68])=decide (nm=[76,68]):=yn (m:=[76,68]) hnm (by decide)
 by_cases hl:nm=[76,68]
 ·rw[decide_eq_true hl] at e1 ⊢
  cases l with
  |nil=>
   obtain rfl:n=0:=hn
   simp only[uC,Bool.and_false,Bool.false_eq_true,if_false]
   clear h hm hl hnm
   go_enter Tryz.func131,Tryz.ntmps131
   go_wp2_with (first
    |(go_at_call 129;(with_reducible refine (C3.out _ HA.out).mono ?_);rintro e w1 ⟨rfl,hb⟩;have HB1:=zz (HA.out.trans (hb.mono HA.out.size));have fE:=zz (HK.out.after hb);have x0:=fE.out.cell 0 rfl;clear hb)
    |(go_at_call 129;(with_reducible refine (C4.out _ HB1.out).mono ?_);rintro e w2 ⟨rfl,hb⟩;have HB2:=zz (HB1.out.trans (hb.mono HB1.out.size));have y0:=(fE.out.after hb).cell 0 rfl;have y1:=(fE.out.after hb).cell 1 rfl;clear hb x0))
   go_ret
   exact⟨rfl,HB2.out⟩
  |cons o l=>
   obtain⟨q,off,rfl,_,c0,_,_⟩:=h.o3 (k:=0) rfl
   simp only[Nat.zero_mul,Nat.add_zero] at c0
   have hpos:0 < n:=by rw[hn];simp
   have hni:(n:Int)≤3:=by omega
   have ek:uC (o::l)=(o.1 == 3):=by
    simp only[uC]
    rfl
   rw[ek]
   obtain⟨k,hk⟩:∃k,o.1=k:=⟨_,rfl⟩
   rw[hk] at c0 ⊢
   clear h hn hm hl hnm ek hk
   cases hb3:(k == 3)
   all_goals
    go_enter Tryz.func131,Tryz.ntmps131
    go_wp2_with (first
     |(go_at_call 129;(with_reducible refine (C3.out _ HA.out).mono ?_);rintro e w1 ⟨rfl,hb⟩;have HB1:=zz (HA.out.trans (hb.mono HA.out.size));have fE:=zz (HK.out.after hb);have x0:=fE.out.cell 0 rfl;clear hb)
     |(go_at_call 129;(with_reducible refine (C4.out _ HB1.out).mono ?_);rintro e w2 ⟨rfl,hb⟩;have HB2:=zz (HB1.out.trans (hb.mono HB1.out.size));have y0:=(fE.out.after hb).cell 0 rfl;have y1:=(fE.out.after hb).cell 1 rfl;have y2:=eB HB2.out c0;clear hb x0))
    go_ret
    exact⟨rfl,HB2.out⟩
 ·rw[decide_eq_false hl] at e1 ⊢
  simp only[Bool.false_and,Bool.false_eq_true,if_false]
  clear h hn hm hl hnm
  go_enter Tryz.func131,Tryz.ntmps131
  go_wp2_with (first
   |(go_at_call 129;(with_reducible refine (C3.out _ HA.out).mono ?_);rintro e w1 ⟨rfl,hb⟩;have HB1:=zz (HA.out.trans (hb.mono HA.out.size));have fE:=zz (HK.out.after hb);have x0:=fE.out.cell 0 rfl;clear hb)
   |(go_at_call 129;(with_reducible refine (C4.out _ HB1.out).mono ?_);rintro e w2 ⟨rfl,hb⟩;have HB2:=zz (HB1.out.trans (hb.mono HB1.out.size));have y0:=(fE.out.after hb).cell 0 rfl;have y1:=(fE.out.after hb).cell 1 rfl;clear hb x0))
  go_ret
  exact⟨rfl,HB2.out⟩
theorem SB (nm:List Nat)(hnm:∀x∈nm,x < 256)(A:Option Addr)(l:List ay)(n c:Nat)(w:World)(p:Nat→Prop)(hn:n=l.length)(hm:l.length≤3)(h:Rd w p A (bE l))(C3:dX w XJ nm (bU nm zB))(C4:dX w tJp nm (bU nm wJp)):
 Calls Tryz.prog 131 #[.agg #[.string (aa nm),.slice A n c]] w fun e w'=>e= .returned (.int .i64 (dx nm l:Nat))∧Below w.heap.size w w':=by
 unfold dx
 cases h3:bU nm zB with
 |true=>
  rw[h3] at C3
  exact KJ nm A n c w C3
 |false=>
  rw[h3] at C3
  cases h4:bU nm wJp with
  |true=>
   rw[h4] at C4
   exact SA nm A n c w C3 C4
  |false=>
   rw[h4] at C4
   refine (KM nm hnm A l n c w p hn hm h C3 C4).mono ?_
   rintro e w' ⟨rfl,hb⟩
   refine⟨bH ?_,hb⟩
   simp only[Bool.false_or,Bool.false_eq_true,if_false]
   split <;> rfl
end Go.Proofs.YtceaodnohnekkaaGreatDoor
