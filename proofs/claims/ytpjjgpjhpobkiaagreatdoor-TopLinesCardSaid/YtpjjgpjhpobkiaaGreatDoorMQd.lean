/- What emit.Bytes answers at the statements of the known text. -/
import Derived.Test.YtpjjgpjhpobkiaaGreatDoorMQa
set_option maxHeartbeats 0
namespace Go.Proofs.YtpjjgpjhpobkiaaGreatDoor
namespace Ex
open Go.RowKit
def NS:List sF:=[
 ([.agg [.str [],.str [79,82,71],.bT,.slice 0 0 0 1 none],.int .i64 (.ofNat 0),.map 1],3,[(0,.cells [.str [],.ptr 2 0] 68 (some 2)),(1,.map [(.str [120],.int .i64 (.ofNat 256),0)] 1),(2,.cells [.int .i64 (.ofNat 1),.int .i64 (.ofNat 256),.str [],.bU,.bU] 403 none)],.tuple [.bT,.int .i64 (.ofNat 0)],4,[]),
 ([.agg [.str [120],.str [76,68],.slice 0 0 0 2 none,.bT],.int .i64 (.ofNat 256),.map 1],5,[(0,.cells [.int .i64 (.ofNat 3),.str [73,88],.ptr 2 0,.int .i64 (.ofNat 4),.str [],.ptr 3 0] 215 (some 3)),(1,.map [(.str [120],.int .i64 (.ofNat 256),0)] 1),(2,.cells [.int .i64 (.ofNat 4),.int .i64 (.ofNat 0),.str [43],.ptr 4 0,.bU] 403 none),(3,.cells [.int .i64 (.ofNat 1),.int .i64 (.ofNat 5),.str [],.bU,.bU] 403 none),(4,.cells [.int .i64 (.ofNat 1),.int .i64 (.ofNat 1),.str [],.bU,.bU] 403 none)],.tuple [.slice 5 0 0 4 none,.int .i64 (.ofNat 0)],6,[(5,.cells [.int .u8 (.ofNat 221),.int .u8 (.ofNat 54),.int .u8 (.ofNat 1),.int .u8 (.ofNat 5)] 5 (some 1))]),
 ([.agg [.str [],.str [74,82],.slice 0 0 0 1 none,.bT],.int .i64 (.ofNat 260),.map 1],3,[(0,.cells [.int .i64 (.ofNat 4),.str [],.ptr 2 0] 215 (some 3)),(1,.map [(.str [120],.int .i64 (.ofNat 256),0)] 1),(2,.cells [.int .i64 (.ofNat 2),.int .i64 (.ofNat 0),.str [120],.bU,.bU] 403 none)],.tuple [.slice 3 0 0 2 none,.int .i64 (.ofNat 0)],4,[(3,.cells [.int .u8 (.ofNat 24),.int .u8 (.ofNat 250)] 5 (some 1))])]
theorem NR:(NS.all (Ev (dx SLp) bE 271))=true:=iM (k:=1) (n:=3) ⟨zt,zt,zt,trivial⟩ zz
end Ex
