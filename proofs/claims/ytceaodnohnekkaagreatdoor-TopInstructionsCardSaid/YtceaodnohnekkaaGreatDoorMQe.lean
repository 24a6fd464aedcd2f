/- What tool.Assemble answers at the known text. -/
import Derived.Test.YtceaodnohnekkaaGreatDoorMQc
import Derived.Test.YtceaodnohnekkaaGreatDoorMQd
namespace Go.Proofs.YtceaodnohnekkaaGreatDoor.Ex
open Go.RowKit
def SFr:ag:=uR (frS bC 285 yg) (uR (frS bC 223 yh) SLp)
theorem aox:ah Tryz.prog SFr:=dR (aca (bD gN N8) bC _ _ Jy) (dR (aca (bD gN N8) bC _ _ Jz) N8)
def JV:List dN:=[
 ([.str [32,79,82,71,32,49,48,48,72,10,120,58,32,76,68,32,40,73,88,43,49,41,44,53,10,32,74,82,32,120]],.tuple [.str [58,48,54,48,49,48,48,48,48,68,68,51,54,48,49,48,53,49,56,70,65,67,69,10,58,48,48,48,48,48,48,48,49,70,70,10],.aX],41263,[])]
theorem JU:(JV.all (dG (aj SFr) bC 13))=true:=by kernel_rfl
def vQ:List dN:=JV
theorem Nw:(vQ.all (dG (aj SFr) bC 13))=true:=by
 unfold vQ
 exact JU
theorem M0:ah Tryz.prog (fF bC 13 (iq bC vQ)):=ig (bD gN aox) bC _ _ Nw
end Go.Proofs.YtceaodnohnekkaaGreatDoor.Ex
