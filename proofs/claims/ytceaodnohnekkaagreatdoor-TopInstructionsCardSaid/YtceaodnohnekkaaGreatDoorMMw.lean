/- What word and named answer, kept. -/
import Derived.Test.YtceaodnohnekkaaGreatDoorMK3
namespace Go.Proofs.YtceaodnohnekkaaGreatDoor.Ex
open Go.RowKit
def JQ:List dN:=[
 ([.str [40,66,67,41]],.agg [.int .i64 (.ofNat 4),.int .i64 (.ofNat 0),.int .i64 (.ofNat 0)],15,[]),
 ([.str [40,67,41]],.agg [.int .i64 (.ofNat 4),.int .i64 (.ofNat 8),.int .i64 (.ofNat 0)],17,[]),
 ([.str [40,68,69,41]],.agg [.int .i64 (.ofNat 4),.int .i64 (.ofNat 1),.int .i64 (.ofNat 0)],15,[]),
 ([.str [40,72,76,41]],.agg [.int .i64 (.ofNat 4),.int .i64 (.ofNat 2),.int .i64 (.ofNat 0)],15,[]),
 ([.str [40,83,80,41]],.agg [.int .i64 (.ofNat 4),.int .i64 (.ofNat 3),.int .i64 (.ofNat 0)],15,[]),
 ([.str [65]],.agg [.int .i64 (.ofNat 1),.int .i64 (.ofNat 7),.int .i64 (.ofNat 0)],14,[]),
 ([.str [65,70]],.agg [.int .i64 (.ofNat 3),.int .i64 (.ofNat 4),.int .i64 (.ofNat 0)],14,[]),
 ([.str [65,70,39]],.agg [.int .i64 (.ofNat 3),.int .i64 (.ofNat 7),.int .i64 (.ofNat 0)],14,[]),
 ([.str [66]],.agg [.int .i64 (.ofNat 1),.int .i64 (.ofNat 0),.int .i64 (.ofNat 0)],14,[]),
 ([.str [66,67]],.agg [.int .i64 (.ofNat 3),.int .i64 (.ofNat 0),.int .i64 (.ofNat 0)],14,[]),
 ([.str [67]],.agg [.int .i64 (.ofNat 1),.int .i64 (.ofNat 1),.int .i64 (.ofNat 0)],16,[]),
 ([.str [68]],.agg [.int .i64 (.ofNat 1),.int .i64 (.ofNat 2),.int .i64 (.ofNat 0)],14,[]),
 ([.str [68,69]],.agg [.int .i64 (.ofNat 3),.int .i64 (.ofNat 1),.int .i64 (.ofNat 0)],14,[]),
 ([.str [69]],.agg [.int .i64 (.ofNat 1),.int .i64 (.ofNat 3),.int .i64 (.ofNat 0)],14,[]),
 ([.str [72]],.agg [.int .i64 (.ofNat 1),.int .i64 (.ofNat 4),.int .i64 (.ofNat 0)],14,[]),
 ([.str [72,76]],.agg [.int .i64 (.ofNat 3),.int .i64 (.ofNat 2),.int .i64 (.ofNat 0)],14,[]),
 ([.str [73]],.agg [.int .i64 (.ofNat 9),.int .i64 (.ofNat 0),.int .i64 (.ofNat 0)],14,[]),
 ([.str [76]],.agg [.int .i64 (.ofNat 1),.int .i64 (.ofNat 5),.int .i64 (.ofNat 0)],14,[]),
 ([.str [82]],.agg [.int .i64 (.ofNat 9),.int .i64 (.ofNat 1),.int .i64 (.ofNat 0)],14,[]),
 ([.str [83,80]],.agg [.int .i64 (.ofNat 3),.int .i64 (.ofNat 3),.int .i64 (.ofNat 0)],14,[])]
theorem JP:(JQ.all (dG (aj S1) bC 261))=true:=by kernel_rfl
def aet:ag:=uR (fF bC 261 (iq bC JQ)) S1
theorem Ku:ah Tryz.prog aet:=dR (ig (bD gN zb) bC _ _ JP) zb
def BJ:List dN:=[
 ([.str [66,32,67,32,68,32,69,32,72,32,76,32,40,72,76,41,32,65],.int .i64 (.ofNat 0)],.agg [.int .i64 (.ofNat 1),.int .i64 (.ofNat 0),.int .i64 (.ofNat 0)],16,[]),
 ([.str [66,32,67,32,68,32,69,32,72,32,76,32,40,72,76,41,32,65],.int .i64 (.ofNat 1)],.agg [.int .i64 (.ofNat 1),.int .i64 (.ofNat 1),.int .i64 (.ofNat 0)],18,[]),
 ([.str [66,32,67,32,68,32,69,32,72,32,76,32,40,72,76,41,32,65],.int .i64 (.ofNat 2)],.agg [.int .i64 (.ofNat 1),.int .i64 (.ofNat 2),.int .i64 (.ofNat 0)],16,[]),
 ([.str [66,32,67,32,68,32,69,32,72,32,76,32,40,72,76,41,32,65],.int .i64 (.ofNat 3)],.agg [.int .i64 (.ofNat 1),.int .i64 (.ofNat 3),.int .i64 (.ofNat 0)],16,[]),
 ([.str [66,32,67,32,68,32,69,32,72,32,76,32,40,72,76,41,32,65],.int .i64 (.ofNat 4)],.agg [.int .i64 (.ofNat 1),.int .i64 (.ofNat 4),.int .i64 (.ofNat 0)],16,[]),
 ([.str [66,32,67,32,68,32,69,32,72,32,76,32,40,72,76,41,32,65],.int .i64 (.ofNat 5)],.agg [.int .i64 (.ofNat 1),.int .i64 (.ofNat 5),.int .i64 (.ofNat 0)],16,[]),
 ([.str [66,32,67,32,68,32,69,32,72,32,76,32,40,72,76,41,32,65],.int .i64 (.ofNat 6)],.agg [.int .i64 (.ofNat 4),.int .i64 (.ofNat 2),.int .i64 (.ofNat 0)],17,[]),
 ([.str [66,32,67,32,68,32,69,32,72,32,76,32,40,72,76,41,32,65],.int .i64 (.ofNat 7)],.agg [.int .i64 (.ofNat 1),.int .i64 (.ofNat 7),.int .i64 (.ofNat 0)],16,[]),
 ([.str [66,67,32,68,69,32,72,76,32,83,80],.int .i64 (.ofNat 0)],.agg [.int .i64 (.ofNat 3),.int .i64 (.ofNat 0),.int .i64 (.ofNat 0)],16,[]),
 ([.str [66,67,32,68,69,32,72,76,32,83,80],.int .i64 (.ofNat 1)],.agg [.int .i64 (.ofNat 3),.int .i64 (.ofNat 1),.int .i64 (.ofNat 0)],16,[]),
 ([.str [66,67,32,68,69,32,72,76,32,83,80],.int .i64 (.ofNat 2)],.agg [.int .i64 (.ofNat 3),.int .i64 (.ofNat 2),.int .i64 (.ofNat 0)],16,[]),
 ([.str [66,67,32,68,69,32,72,76,32,83,80],.int .i64 (.ofNat 3)],.agg [.int .i64 (.ofNat 3),.int .i64 (.ofNat 3),.int .i64 (.ofNat 0)],16,[]),
 ([.str [66,67,32,68,69,32,72,76,32,65,70],.int .i64 (.ofNat 0)],.agg [.int .i64 (.ofNat 3),.int .i64 (.ofNat 0),.int .i64 (.ofNat 0)],16,[]),
 ([.str [66,67,32,68,69,32,72,76,32,65,70],.int .i64 (.ofNat 1)],.agg [.int .i64 (.ofNat 3),.int .i64 (.ofNat 1),.int .i64 (.ofNat 0)],16,[]),
 ([.str [66,67,32,68,69,32,72,76,32,65,70],.int .i64 (.ofNat 2)],.agg [.int .i64 (.ofNat 3),.int .i64 (.ofNat 2),.int .i64 (.ofNat 0)],16,[]),
 ([.str [66,67,32,68,69,32,72,76,32,65,70],.int .i64 (.ofNat 3)],.agg [.int .i64 (.ofNat 3),.int .i64 (.ofNat 4),.int .i64 (.ofNat 0)],16,[])]
theorem Eb:(BJ.all (dG (aj aet) bC 326))=true:=by kernel_rfl
def iM:ag:=uR (fF bC 326 (iq bC BJ)) aet
theorem Cg:ah Tryz.prog iM:=dR (ig (bD gN Ku) bC _ _ Eb) Ku
end Go.Proofs.YtceaodnohnekkaaGreatDoor.Ex
