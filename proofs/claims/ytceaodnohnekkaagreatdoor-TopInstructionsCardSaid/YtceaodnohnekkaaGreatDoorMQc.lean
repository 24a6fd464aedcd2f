/- What size.Fixed answers at the statements of the known text. -/
import Derived.Test.YtceaodnohnekkaaGreatDoorMK4
import Derived.Test.YtceaodnohnekkaaGreatDoorMQb
namespace Go.Proofs.YtceaodnohnekkaaGreatDoor.Ex
open Go.RowKit
def JF:qg:=([.agg [.str [],.str [79,82,71],.aX,.slice 99 0 0 1 none]],8745,[(99,.cells [.str [],.ptr 83 0] 384 (some 2)),(83,.cells [.int .i64 (.ofNat 1),.int .i64 (.ofNat 256),.str [],.bY,.bY] 394 none)],.tuple [.int .i64 (.ofNat 0),.bool true],8746,[])
theorem JE:kY (aj SLp) bC 285 JF=true:=by kernel_rfl
def JD:qg:=([.agg [.str [120],.str [76,68],.slice 485 0 0 2 none,.aX]],8763,[(485,.cells [.int .i64 (.ofNat 3),.str [73,88],.ptr 370 0,.int .i64 (.ofNat 4),.str [],.ptr 467 0] 487 (some 3)),(467,.cells [.int .i64 (.ofNat 1),.int .i64 (.ofNat 5),.str [],.bY,.bY] 394 none),(370,.cells [.int .i64 (.ofNat 4),.int .i64 (.ofNat 0),.str [43],.ptr 369 0,.bY] 394 none),(369,.cells [.int .i64 (.ofNat 1),.int .i64 (.ofNat 1),.str [],.bY,.bY] 394 none)],.tuple [.int .i64 (.ofNat 4),.bool true],22584,[])
theorem JC:kY (aj SLp) bC 285 JD=true:=by kernel_rfl
def JB:qg:=([.agg [.str [],.str [74,82],.slice 7603 0 0 1 none,.aX]],22590,[(7603,.cells [.int .i64 (.ofNat 4),.str [],.ptr 7572 0] 487 (some 3)),(7572,.cells [.int .i64 (.ofNat 2),.int .i64 (.ofNat 0),.str [120],.bY,.bY] 394 none)],.tuple [.int .i64 (.ofNat 2),.bool true],24803,[])
theorem JA:kY (aj SLp) bC 285 JB=true:=by kernel_rfl
def yg:List qg:=[JF,JD,JB]
theorem Jy:(yg.all (kY (aj SLp) bC 285))=true:=by
 unfold yg
 simp only[List.all_cons,List.all_nil,JE,JC,JA,Bool.and_self]
end Go.Proofs.YtceaodnohnekkaaGreatDoor.Ex
