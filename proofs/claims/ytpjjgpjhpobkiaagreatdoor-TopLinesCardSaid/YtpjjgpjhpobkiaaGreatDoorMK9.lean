/- What the reference's At answers, in any world. -/
import Derived.Test.YtpjjgpjhpobkiaaGreatDoorMK7
import Derived.Test.YtpjjgpjhpobkiaaGreatDoorMRa
namespace Go.Proofs.YtpjjgpjhpobkiaaGreatDoor
namespace Ex
open Go.RowKit
theorem XU {call:aj}(hC:ai Tryz.prog call){g p o:Nat}{d:bL}(h:WQ call g p o d=true)(hk:d.1=1)(w:World)(hG:eT w):
 Calls Tryz.prog g #[.int .i64 (p:Int),.int .u8 (o:Int)] w fun e w'=>∃A c,e= .returned (.tuple #[enV p o d A c,.int .i64 1])∧Rd w' (fun _=>True) A (lN d)∧Below w.heap.size w w':=by
 obtain⟨x,_,hr⟩:=XW h;obtain⟨_,_,q3⟩:=hC _ _ _ _ _ hr;have hc:=q3 w iY w ⟨trivial,trivial,trivial⟩ (CY hG _);refine wW (show Calls Tryz.prog g #[.int .i64 (p:Int),.int .u8 (o:Int)] w _ from hc) ?_
 rintro e w' ⟨ρ',rfl,hP,_⟩;have hb:=hP.fZ rfl;obtain⟨k,nm,ex,al,cs⟩:=d;obtain rfl:k=1:=hk
 have addr:∀(q j:Nat),(⟨q,0,none⟩:Addr).add j=⟨q,j,none⟩:=fun q j=>by
  unfold Addr.add;split
  ·rename_i h;subst h;rfl
  ·simp
 cases cs with
 |nil=>exact⟨none,0,by simp only[enV,List.length_nil,Nat.zero_div];rfl,Rd.nil _ _ _,hb⟩
 |cons a t=>
  cases hx:Nat.ble 1000 x with
  |true=>
   have hS:Ji x (a::t)= .slice (Nat.sub x 1000) 0 0 (Nat.div (a::t).length 3) (some (Nat.div (a::t).length 3)):=by
    show cond (Nat.ble 1000 x) _ _=_;rw[hx];rfl
   have hB:UF x (a::t)=[(Nat.sub x 1000,.cells (opC (a::t)) 174 none)]:=by
    show cond (Nat.ble 1000 x) _ _=_;rw[hx];rfl
   have hrep:=hP.rep.rep (Nat.sub x 1000) (.cells (opC (a::t)) 174 none) (by
    show au _ (UF x (a::t))=_;rw[hB];exact aA _ _ _)
   refine⟨some ⟨ρ'.blk (Nat.sub x 1000),0,none⟩,Nat.div (a::t).length 3,?_,fun _=>⟨_,rfl,trivial,fun j u hu=>?_⟩,hb⟩
   ·show Ending.returned (.tuple #[.agg #[_,_,_,cv ρ' (Ji x (a::t)),_,_],_])=_;rw[hS];rfl
   ·rw[addr];have hrep:w'.heap[ρ'.blk (Nat.sub x 1000)]? =some (.cells (aH ρ' (opC (a::t))).toArray 174 (0,0)):=hrep;simp only[World.cell?,hrep];rw[JD]
    simpa [lN] using hu
  |false=>
   have hS:Ji x (a::t)= .slice x 0 0 (Nat.div (a::t).length 3) none:=by
    show cond (Nat.ble 1000 x) _ _=_;rw[hx];rfl
   have hB:UF x (a::t)=[(x,.cells (opC (a::t)) 174 (some 3))]:=by
    show cond (Nat.ble 1000 x) _ _=_;rw[hx];rfl
   have hrep:=hP.rep.rep x (.cells (opC (a::t)) 174 (some 3)) (by
    show au _ (UF x (a::t))=_;rw[hB];exact aA _ _ _)
   obtain⟨n,cur,h1,h2,h3,h4,h5,h6⟩:=hrep;refine⟨some ⟨ρ'.blk x,0,none⟩,ρ'.cap x - 0,?_,fun _=>⟨_,rfl,trivial,fun j u hu=>?_⟩,hb⟩
   ·show Ending.returned (.tuple #[.agg #[_,_,_,cv ρ' (Ji x (a::t)),_,_],_])=_;rw[hS];rfl
   ·rw[addr];simp only[World.cell?,h1];rw[JD] at h6;have hj:j < (lN (1,nm,ex,al,a::t)).length:=(zf.1 hu).1
    have hl:(lN (1,nm,ex,al,a::t)).length=n * 3:=by
     rw[← h5];simp[lN,opC]
    have hu':(lN (1,nm,ex,al,a::t))[j]? =some u:=hu;rw[show lN (1,nm,ex,al,a::t)=cur.toList.take (n * 3) from h6.symm,yj,zW zy] at hu'
    simpa using hu'
theorem PL {call:aj}(hC:ai Tryz.prog call){g p o:Nat}{d:bL}(h:WQ call g p o d=true)(w:World)(hG:eT w):
 Calls Tryz.prog g #[.int .i64 (p:Int),.int .u8 (o:Int)] w fun e w'=>∃(p' o':Int) (nm ex:ByteArray) (al:Bool) (A:Option Addr) (n c:Nat),e= .returned (.tuple #[.agg #[.int .i64 p',.int .u8 o',.string nm,.slice A n c,.string ex,.bool al],.int .i64 (d.1:Int)])∧Below w.heap.size w w':=by
 obtain⟨x,_,hr⟩:=XW h;obtain⟨_,_,q3⟩:=hC _ _ _ _ _ hr;have hc:=q3 w iY w ⟨trivial,trivial,trivial⟩ (CY hG _);refine wW (show Calls Tryz.prog g #[.int .i64 (p:Int),.int .u8 (o:Int)] w _ from hc) ?_
 rintro e w' ⟨ρ',rfl,hP,_⟩;have hb:=hP.fZ rfl;obtain⟨k,nm,ex,al,cs⟩:=d
 have hs:∃A n c,cv ρ' (Ji x cs)= .slice A n c:=by
  cases cs with
  |nil=>exact⟨_,_,_,rfl⟩
  |cons a t=>
   show ∃A n c,cv ρ' (cond (Nat.ble 1000 x) _ _)= .slice A n c
   cases Nat.ble 1000 x<;>exact⟨_,_,_,rfl⟩
 obtain⟨A,n,c,hs⟩:=hs
 have hg:∃(p' o':Int) (FR Kh:ByteArray) (al':Bool),cv ρ' (opG p o (k,nm,ex,al,cs) (Ji x cs))= .agg #[.int .i64 p',.int .u8 o',.string FR,.slice A n c,.string Kh,.bool al']:=by
  unfold opG;split
  ·exact⟨_,_,_,_,_,by simp only[cv,aH,hs];rfl⟩
  ·exact⟨_,_,_,_,_,by simp only[cv,aH,hs];rfl⟩
 obtain⟨p',o',FR,Kh,al',hg⟩:=hg;refine⟨p',o',FR,Kh,al',A,n,c,?_,hb⟩;show Ending.returned (.tuple #[cv ρ' (opG p o (k,nm,ex,al,cs) (Ji x cs)),_])=_;rw[hg];rfl
theorem XV {p o:Nat}{d:bL}(hd:jd p o=some d)(w:World)(hG:eT w):
 Calls Tryz.prog 34 #[.int .i64 (p:Int),.int .u8 (o:Int)] w fun e w'=>∃(p' o':Int) (nm ex:ByteArray) (al:Bool) (A:Option Addr) (n c:Nat),e= .returned (.tuple #[.agg #[.int .i64 p',.int .u8 o',.string nm,.slice A n c,.string ex,.bool al],.int .i64 (d.1:Int)])∧Below w.heap.size w w':=by
 exact PL (RU fB BO) (uN afX hd) w hG
theorem ahv {p o:Nat}{d:bL}(hd:jd p o=some d)(hk:d.1=1)(w:World)(hG:eT w):
 Calls Tryz.prog 34 #[.int .i64 (p:Int),.int .u8 (o:Int)] w fun e w'=>∃A c,e= .returned (.tuple #[enV p o d A c,.int .i64 1])∧Rd w' (fun _=>True) A (lN d)∧Below w.heap.size w w':=by
 exact XU (RU fB BO) (uN afX hd) hk w hG
end Ex
