/- What tool.Disassemble answers at the known text. -/
import Derived.Test.YtceaodnohnekkaaGreatDoorMQb
namespace Go.Proofs.YtceaodnohnekkaaGreatDoor.Ex
open Go.RowKit
def JS:List dN:=[
 ([.str [58,48,54,48,49,48,48,48,48,68,68,51,54,48,49,48,53,49,56,70,65,67,69,10,58,48,48,48,48,48,48,48,49,70,70,10]],.tuple [.str [9,79,82,71,32,49,48,48,72,10,9,76,68,32,40,73,88,43,49,41,44,53,10,9,74,82,32,36,45,52,10],.agg [.int .i64 (.ofNat 0),.int .i64 (.ofNat 0)]],8291,[])]
theorem JR:(JS.all (dG (aj SWd) bC 14))=true:=by kernel_rfl
def vP:List dN:=JS
theorem Nu:(vP.all (dG (aj SWd) bC 14))=true:=by
 unfold vP
 exact JR
theorem MZ:ah Tryz.prog (fF bC 14 (iq bC vP)):=ig (bD gN N7) bC _ _ Nu
end Go.Proofs.YtceaodnohnekkaaGreatDoor.Ex
