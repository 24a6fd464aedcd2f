/- Parts of the proof of TopInstructions. -/
import Derived.Test.YtceaodnohnekkaaGreatDoorMQa
namespace Go.Proofs.YtceaodnohnekkaaGreatDoor.Ex
open Go.RowKit
theorem asy:([amR,amS].all (IY (aj SAt) bC 73))=true:=by
 simp only[List.all_cons,List.all_nil,agz,agA,Bool.and_self]
def SNm:ag:=uR (amv bC 73 [amR,amS]) SSet
theorem ED:ah Tryz.prog SNm:=dR (afS (bD gN EE) bC _ _ asy) ahJ
def yM:List dN:=[
 ([.str [83,85,66,32,65,78,68,32,88,79,82,32,79,82,32,67,80],.str [76,68]],.bool false,1,[]),
 ([.str [65,68,68,32,65,68,67,32,83,66,67],.str [76,68]],.bool false,1,[])]
theorem zZ:(yM.all (dG (aj SNm) bC 129))=true:=by kernel_rfl
def yL:List dN:=[
 ([.str [66,73,84,32,82,69,83,32,83,69,84,32,73,77,32,82,83,84,32,79,85,84],.str [76,68]],.bool false,1,[]),
 ([.str [74,80,32,67,65,76,76],.str [76,68]],.bool false,1,[])]
theorem zY:(yL.all (dG (aj SNm) bC 129))=true:=by kernel_rfl
def yK:List dN:=[
 ([.str [83,85,66,32,65,78,68,32,88,79,82,32,79,82,32,67,80],.str [74,82]],.bool false,1,[]),
 ([.str [65,68,68,32,65,68,67,32,83,66,67],.str [74,82]],.bool false,1,[])]
theorem zX:(yK.all (dG (aj SNm) bC 129))=true:=by kernel_rfl
def yJ:List dN:=[
 ([.str [66,73,84,32,82,69,83,32,83,69,84,32,73,77,32,82,83,84,32,79,85,84],.str [74,82]],.bool false,1,[]),
 ([.str [74,80,32,67,65,76,76],.str [74,82]],.bool false,1,[])]
theorem zW:(yJ.all (dG (aj SNm) bC 129))=true:=by kernel_rfl
def oM:List dN:=yM++yL++yK++yJ
theorem Ec:(oM.all (dG (aj SNm) bC 129))=true:=by
 unfold oM
 simp only[List.all_append,zZ,zY,zX,zW,Bool.and_self]
theorem Dx:ah Tryz.prog (fF bC 129 (iq bC oM)):=ig (bD gN ED) bC _ _ Ec
def uK:List dN:=[
 ([.str []],.aX,11,[]),
 ([.str [73,88]],.slice 8 0 0 1 none,13,[(8,.cells [.int .i64 (.ofNat 3),.int .i64 (.ofNat 5),.int .i64 (.ofNat 0)] 65 (some 3))]),
 ([.str [120]],.aX,11,[]),
 ([.str [88]],.aX,11,[]),
 ([.str [72,76]],.slice 8 0 0 1 none,13,[(8,.cells [.int .i64 (.ofNat 3),.int .i64 (.ofNat 2),.int .i64 (.ofNat 0)] 65 (some 3))])]
theorem yF:(uK.all (dG (aj SNm) bC 325))=true:=by kernel_rfl
def lX:List dN:=uK
theorem zU:(lX.all (dG (aj SNm) bC 325))=true:=by
 unfold lX
 exact yF
theorem zF:ah Tryz.prog (fF bC 325 (iq bC lX)):=ig (bD gN ED) bC _ _ zU
def BL:List dN:=[
 ([.str []],.tuple [.int .i64 (.ofNat 0),.bool false],11,[]),
 ([.str [73,88]],.tuple [.int .i64 (.ofNat 5),.bool true],22,[])]
theorem Ed:(BL.all (dG (aj SNm) bC 449))=true:=by kernel_rfl
def rf:List dN:=BL
theorem JW:(rf.all (dG (aj SNm) bC 449))=true:=by
 unfold rf
 exact Ed
theorem I8:ah Tryz.prog (fF bC 449 (iq bC rf)):=ig (bD gN ED) bC _ _ JW
def SWd:ag:=uR (fF bC 129 (iq bC oM)) (uR (fF bC 325 (iq bC lX)) (uR (fF bC 449 (iq bC rf)) SNm))
theorem N7:ah Tryz.prog SWd:=dR Dx (dR zF (dR I8 ED))
def uN:List dN:=[
 ([.str [32,79,82,71,32,49,48,48,72]],.tuple [.agg [.str [],.str [79,82,71],.aX,.slice 90 0 0 1 none],.int .i64 (.ofNat 0)],92,[(90,.cells [.str [],.ptr 74 0] 384 (some 2)),(74,.cells [.int .i64 (.ofNat 1),.int .i64 (.ofNat 256),.str [],.bY,.bY] 394 none)])]
theorem yI:(uN.all (dG (aj SWd) bC 154))=true:=by kernel_rfl
def uM:List dN:=[
 ([.str [120,58,32,76,68,32,40,73,88,43,49,41,44,53]],.tuple [.agg [.str [120],.str [76,68],.slice 381 0 0 2 none,.aX],.int .i64 (.ofNat 0)],7330,[(381,.cells [.int .i64 (.ofNat 3),.str [73,88],.ptr 266 0,.int .i64 (.ofNat 4),.str [],.ptr 363 0] 487 (some 3)),(363,.cells [.int .i64 (.ofNat 1),.int .i64 (.ofNat 5),.str [],.bY,.bY] 394 none),(266,.cells [.int .i64 (.ofNat 4),.int .i64 (.ofNat 0),.str [43],.ptr 265 0,.bY] 394 none),(265,.cells [.int .i64 (.ofNat 1),.int .i64 (.ofNat 1),.str [],.bY,.bY] 394 none)])]
theorem yH:(uM.all (dG (aj SWd) bC 154))=true:=by kernel_rfl
def uL:List dN:=[
 ([.str [32,74,82,32,120]],.tuple [.agg [.str [],.str [74,82],.slice 166 0 0 1 none,.aX],.int .i64 (.ofNat 0)],1296,[(166,.cells [.int .i64 (.ofNat 4),.str [],.ptr 135 0] 487 (some 3)),(135,.cells [.int .i64 (.ofNat 2),.int .i64 (.ofNat 0),.str [120],.bY,.bY] 394 none)])]
theorem yG:(uL.all (dG (aj SWd) bC 154))=true:=by kernel_rfl
def lY:List dN:=uN++uM++uL
theorem zV:(lY.all (dG (aj SWd) bC 154))=true:=by
 unfold lY
 simp only[List.all_append,yI,yH,yG,Bool.and_self]
theorem zG:ah Tryz.prog (fF bC 154 (iq bC lY)):=ig (bD gN N7) bC _ _ zV
def SLp:ag:=uR (fF bC 154 (iq bC lY)) SWd
theorem N8:ah Tryz.prog SLp:=dR zG N7
end Go.Proofs.YtceaodnohnekkaaGreatDoor.Ex
