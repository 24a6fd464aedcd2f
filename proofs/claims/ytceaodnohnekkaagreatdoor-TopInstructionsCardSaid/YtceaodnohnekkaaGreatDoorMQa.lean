/- Parts of the proof of TopInstructions. -/
import Derived.Test.YtceaodnohnekkaaGreatDoorMK3
import Derived.Test.YtceaodnohnekkaaGreatDoorMK8
namespace Go.Proofs.YtceaodnohnekkaaGreatDoor.Ex
open Go.RowKit
def aeq (b n:Nat)(bl:List (Nat×aF))(gl:List (Nat×List Value)):Option (AV×AW)→Bool
 |some (.map c,W)=>cond (Nat.beq c b) (cond (Nat.beq W.nx n) (cond (Ev W.bl bl) (match W.az with | []=>Xd W.gl gl | _=>false) false) false) false
 |_=>false
theorem Km {b n:Nat}{bl:List (Nat×aF)}{gl:List (Nat×List Value)}{r:Option (AV×AW)}(h:aeq b n bl gl r=true):r=some (.map b,⟨n,bl,[],gl⟩):=by
 unfold aeq at h
 split at h
 case h_2=>cases h
 case h_1 c W=>
 cases h1:Nat.beq c b with
 |false=>rw[h1] at h;cases h
 |true=>
 cases h2:Nat.beq W.nx n with
 |false=>rw[h1,h2] at h;cases h
 |true=>
 cases h3:Ev W.bl bl with
 |false=>rw[h1,h2,h3] at h;cases h
 |true=>
 rw[h1,h2,h3] at h
 simp only[cond_true] at h
 obtain⟨nx,wbl,az,wgl⟩:=W
 dsimp only at h h2 h3
 split at h
 case h_2=>cases h
 case h_1=>
 rw[(beq_iff _ _).1 h1,(beq_iff _ _).1 h2,vR h3,sP h]
def OA:List (Nat×aF):=match ahi with
 |e::_=>e.2.2.2
 |[]=>[]
theorem Fx:aeq 0 2 OA bC (aj SAt 64 [] ⟨0,[],[],bC⟩)=true:=by kernel_rfl
def ami:Ci
 |[]=>some (.map 0,⟨2,OA,[],bC⟩)
 |_=>none
theorem afO:ah Tryz.prog (fF bC 64 ami):=qM (bD gN EE) bC _ _ fun args v W h=>by
 unfold ami at h
 split at h
 case h_2=>cases h
 case h_1=>
 obtain⟨rfl,rfl⟩:=zw (zx h)
 exact⟨rfl,Km Fx⟩
def SSet:ag:=uR (fF bC 64 ami) SAt
theorem ahJ:ah Tryz.prog SSet:=dR afO EE
theorem agz:IY (aj SAt) bC 73 amR=true:=by kernel_rfl
theorem agA:IY (aj SAt) bC 73 amS=true:=by kernel_rfl
end Go.Proofs.YtceaodnohnekkaaGreatDoor.Ex
