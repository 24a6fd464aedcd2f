/- What emit.Bytes answers at the statements of the known text. -/
import Derived.Test.YtceaodnohnekkaaGreatDoorMK4
import Derived.Test.YtceaodnohnekkaaGreatDoorMQb
namespace Go.Proofs.YtceaodnohnekkaaGreatDoor.Ex
open Go.RowKit
def JL:qg:=([.agg [.str [],.str [79,82,71],.aX,.slice 99 0 0 1 none],.int .i64 (.ofNat 0),.map 24826],24835,[(24826,.map [(.str [120],.int .i64 (.ofNat 256),0)] 1),(99,.cells [.str [],.ptr 83 0] 384 (some 2)),(83,.cells [.int .i64 (.ofNat 1),.int .i64 (.ofNat 256),.str [],.bY,.bY] 394 none)],.tuple [.aX,.int .i64 (.ofNat 0)],24839,[])
theorem JK:kY (aj SLp) bC 223 JL=true:=by kernel_rfl
def JJ:qg:=([.agg [.str [120],.str [76,68],.slice 485 0 0 2 none,.aX],.int .i64 (.ofNat 256),.map 24826],24840,[(24826,.map [(.str [120],.int .i64 (.ofNat 256),0)] 1),(485,.cells [.int .i64 (.ofNat 3),.str [73,88],.ptr 370 0,.int .i64 (.ofNat 4),.str [],.ptr 467 0] 487 (some 3)),(467,.cells [.int .i64 (.ofNat 1),.int .i64 (.ofNat 5),.str [],.bY,.bY] 394 none),(370,.cells [.int .i64 (.ofNat 4),.int .i64 (.ofNat 0),.str [43],.ptr 369 0,.bY] 394 none),(369,.cells [.int .i64 (.ofNat 1),.int .i64 (.ofNat 1),.str [],.bY,.bY] 394 none)],.tuple [.slice 38813 0 0 4 none,.int .i64 (.ofNat 0)],38815,[(38813,.cells [.int .u8 (.ofNat 221),.int .u8 (.ofNat 54),.int .u8 (.ofNat 1),.int .u8 (.ofNat 5)] 5 (some 1))])
theorem JI:kY (aj SLp) bC 223 JJ=true:=by kernel_rfl
def JH:qg:=([.agg [.str [],.str [74,82],.slice 7603 0 0 1 none,.aX],.int .i64 (.ofNat 260),.map 24826],38816,[(24826,.map [(.str [120],.int .i64 (.ofNat 256),0)] 1),(7603,.cells [.int .i64 (.ofNat 4),.str [],.ptr 7572 0] 487 (some 3)),(7572,.cells [.int .i64 (.ofNat 2),.int .i64 (.ofNat 0),.str [120],.bY,.bY] 394 none)],.tuple [.slice 41158 0 0 2 none,.int .i64 (.ofNat 0)],41160,[(41158,.cells [.int .u8 (.ofNat 24),.int .u8 (.ofNat 250)] 5 (some 1))])
theorem JG:kY (aj SLp) bC 223 JH=true:=by kernel_rfl
def yh:List qg:=[JL,JJ,JH]
theorem Jz:(yh.all (kY (aj SLp) bC 223))=true:=by
 unfold yh
 simp only[List.all_cons,List.all_nil,JK,JI,JG,Bool.and_self]
end Go.Proofs.YtceaodnohnekkaaGreatDoor.Ex
