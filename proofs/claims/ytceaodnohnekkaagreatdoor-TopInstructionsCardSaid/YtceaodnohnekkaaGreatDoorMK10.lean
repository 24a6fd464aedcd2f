/- Parts of the proof of TopInstructions. -/
import Derived.Test.YtceaodnohnekkaaGreatDoorMK3
import Derived.Test.YtceaodnohnekkaaGreatDoorMK5
import Derived.Test.YtceaodnohnekkaaGreatDoorMK8
namespace Go.Proofs.YtceaodnohnekkaaGreatDoor.Ex
open Go.RowKit
theorem adb {p o:Nat}{d:aJ}(hd:gL p o=some d)(hk:d.1=1)(w:World)(hG:gJ w):
 Calls Tryz.prog 104 #[.int .i64 (p:Int),.int .u8 (o:Int)] w fun e w'=>∃A c,e= .returned (.tuple #[Xe p o d A c,.int .i64 1])∧eX w.heap.size w' A c (lQ d)∧Below w.heap.size w w':=by
 obtain⟨x,_,hx⟩:=Er ada hd
 exact afz (bD gN nR) hx hk w hG
theorem Kj {p o:Nat}{d:aJ}(hd:gL p o=some d)(w:World)(hG:gJ w):
 Calls Tryz.prog 104 #[.int .i64 (p:Int),.int .u8 (o:Int)] w fun e w'=>∃(p' o':Int) (nm ex:ByteArray) (al:Bool) (A:Option Addr) (n c:Nat),e= .returned (.tuple #[.agg #[.int .i64 p',.int .u8 o',.string nm,.slice A n c,.string ex,.bool al],.int .i64 (d.1:Int)])∧Below w.heap.size w w':=by
 obtain⟨x,_,hx⟩:=Er ada hd
 exact S9 (bD gN nR) hx w hG
theorem amk {p o:Nat}{d:aJ}(hd:gL p o=some d)(hk:d.1=1)(w:World)(hG:gJ w):
 Calls Tryz.prog 21 #[.int .i64 (p:Int),.int .u8 (o:Int)] w fun e w'=>∃A c,e= .returned (.tuple #[Xe p o d A c,.int .i64 1])∧Rd w' (fun _=>True) A (lQ d)∧Below w.heap.size w w':=by
 obtain⟨x,_,hx⟩:=FJ ah8 hd
 exact XX (OB gN zb) hx hk w hG
theorem LA {call:ag}(hC:ah Tryz.prog call){g p o:Nat}{d:aJ}{x:Nat×Nat}(h:dG call bC g (Un p o d x)=true)(w:World)(hG:gJ w):
 Calls Tryz.prog g #[.int .i64 (p:Int),.int .u8 (o:Int)] w fun e w'=>∃(p' o':Int) (nm ex:ByteArray) (al:Bool) (A:Option Addr) (n c:Nat),e= .returned (.tuple #[.agg #[.int .i64 p',.int .u8 o',.string nm,.slice A n c,.string ex,.bool al],.int .i64 (d.1:Int)])∧Below w.heap.size w w':=by
 obtain⟨_,hr⟩:=kZ h
 obtain⟨_,_,q3⟩:=hC _ _ _ _ _ hr
 have hc:=q3 w iy w ⟨trivial,trivial,trivial⟩ (Ae hG _)
 refine Calls.mono (show Calls Tryz.prog g #[.int .i64 (p:Int),.int .u8 (o:Int)] w _ from hc) ?_
 rintro e w' ⟨ρ',rfl,hP,_⟩
 have hb:=hP.ib rfl
 obtain⟨k,nm,ex,al,cs⟩:=d
 have hs:∃A n c,cv ρ' (FC x.2 cs)= .slice A n c:=by
  cases cs with
  |nil=>exact⟨_,_,_,rfl⟩
  |cons a t=>
   show ∃A n c,cv ρ' (cond (Nat.ble 1000 x.2) _ _)= .slice A n c
   cases Nat.ble 1000 x.2 <;> exact⟨_,_,_,rfl⟩
 obtain⟨A,n,c,hs⟩:=hs
 have hg:∃(p' o':Int) (uS ex':ByteArray) (al':Bool),cv ρ' (opG p o (k,nm,ex,al,cs) (FC x.2 cs))= .agg #[.int .i64 p',.int .u8 o',.string uS,.slice A n c,.string ex',.bool al']:=by
  unfold opG
  split
  ·exact⟨_,_,_,_,_,by simp only[cv,aG,hs];rfl⟩
  ·exact⟨_,_,_,_,_,by simp only[cv,aG,hs];rfl⟩
 obtain⟨p',o',uS,ex',al',hg⟩:=hg
 refine⟨p',o',uS,ex',al',A,n,c,?_,hb⟩
 show Ending.returned (.tuple #[cv ρ' (opG p o (k,nm,ex,al,cs) (FC x.2 cs)),_])=_
 rw[hg]
 rfl
theorem XY {p o:Nat}{d:aJ}(hd:gL p o=some d)(w:World)(hG:gJ w):
 Calls Tryz.prog 21 #[.int .i64 (p:Int),.int .u8 (o:Int)] w fun e w'=>∃(p' o':Int) (nm ex:ByteArray) (al:Bool) (A:Option Addr) (n c:Nat),e= .returned (.tuple #[.agg #[.int .i64 p',.int .u8 o',.string nm,.slice A n c,.string ex,.bool al],.int .i64 (d.1:Int)])∧Below w.heap.size w w':=by
 obtain⟨x,_,hx⟩:=FJ ah8 hd
 exact LA (OB gN zb) hx w hG
end Go.Proofs.YtceaodnohnekkaaGreatDoor.Ex
