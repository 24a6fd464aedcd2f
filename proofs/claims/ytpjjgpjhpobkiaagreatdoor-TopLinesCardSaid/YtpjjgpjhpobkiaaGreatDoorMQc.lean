/- What size.Fixed answers at the statements of the known text. -/
import Derived.Test.YtpjjgpjhpobkiaaGreatDoorMQa
set_option maxHeartbeats 0
namespace Go.Proofs.YtpjjgpjhpobkiaaGreatDoor
namespace Ex
open Go.RowKit
def NQ:List sF:=[
 ([.agg [.str [],.str [79,82,71],.bT,.slice 0 0 0 1 none]],2,[(0,.cells [.str [],.ptr 1 0] 68 (some 2)),(1,.cells [.int .i64 (.ofNat 1),.int .i64 (.ofNat 256),.str [],.bU,.bU] 403 none)],.tuple [.int .i64 (.ofNat 0),.bool true],3,[]),
 ([.agg [.str [120],.str [76,68],.slice 0 0 0 2 none,.bT]],4,[(0,.cells [.int .i64 (.ofNat 3),.str [73,88],.ptr 1 0,.int .i64 (.ofNat 4),.str [],.ptr 2 0] 215 (some 3)),(1,.cells [.int .i64 (.ofNat 4),.int .i64 (.ofNat 0),.str [43],.ptr 3 0,.bU] 403 none),(2,.cells [.int .i64 (.ofNat 1),.int .i64 (.ofNat 5),.str [],.bU,.bU] 403 none),(3,.cells [.int .i64 (.ofNat 1),.int .i64 (.ofNat 1),.str [],.bU,.bU] 403 none)],.tuple [.int .i64 (.ofNat 4),.bool true],5,[]),
 ([.agg [.str [],.str [74,82],.slice 0 0 0 1 none,.bT]],2,[(0,.cells [.int .i64 (.ofNat 4),.str [],.ptr 1 0] 215 (some 3)),(1,.cells [.int .i64 (.ofNat 2),.int .i64 (.ofNat 0),.str [120],.bU,.bU] 403 none)],.tuple [.int .i64 (.ofNat 2),.bool true],3,[])]
theorem NP:(NQ.all (Ev (dx SLp) bE 8))=true:=iM (k:=1) (n:=3) ⟨zt,zt,zt,trivial⟩ zz
end Ex
