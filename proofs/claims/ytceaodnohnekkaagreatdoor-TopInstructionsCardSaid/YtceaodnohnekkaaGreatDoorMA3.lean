/- What table.At answers: page 4. -/
import Derived.Test.YtceaodnohnekkaaGreatDoorMK3
import Derived.Test.YtceaodnohnekkaaGreatDoorMK7
namespace Go.Proofs.YtceaodnohnekkaaGreatDoor.Ex
open Go.RowKit
def QM:List (Nat×Nat):=ax [159,423,511,367,367,367,423,159,487,516,511,367,383,383,439,159]
theorem adH:aN (aj ai) 104 4 0 aap QM=true:=by kernel_rfl
def QL:List (Nat×Nat):=ax [239,423,511,367,367,367,423,159,239,516,511,367,367,367,423,159]
theorem adG:aN (aj ai) 104 4 16 aao QL=true:=by kernel_rfl
def QK:List (Nat×Nat):=ax [295,420,372,363,363,363,420,159,295,516,372,363,363,363,420,159]
theorem adF:aN (aj ai) 104 4 32 aan QK=true:=by kernel_rfl
def QJ:List (Nat×Nat):=ax [295,423,391,367,362,362,410,159,295,516,391,367,367,367,423,159]
theorem adE:aN (aj ai) 104 4 48 aam QJ=true:=by kernel_rfl
def QI:List (Nat×Nat):=ax [551,567,551,551,548,548,538,551,567,583,567,567,564,564,554,567]
theorem adD:aN (aj ai) 104 4 64 aal QI=true:=by kernel_rfl
def QH:List (Nat×Nat):=ax [551,567,551,551,548,548,538,551,551,567,551,551,548,548,538,551]
theorem adC:aN (aj ai) 104 4 80 aak QH=true:=by kernel_rfl
def QG:List (Nat×Nat):=ax [548,564,548,548,548,548,538,548,548,564,548,548,548,548,538,548]
theorem adB:aN (aj ai) 104 4 96 aaj QG=true:=by kernel_rfl
def QF:List (Nat×Nat):=ax [538,554,538,538,538,538,159,538,551,567,551,551,548,548,538,551]
theorem adA:aN (aj ai) 104 4 112 aai QF=true:=by kernel_rfl
def QE:List (Nat×Nat):=ax [535,551,535,535,532,532,522,535,535,551,535,535,532,532,522,535]
theorem adz:aN (aj ai) 104 4 128 aah QE=true:=by kernel_rfl
def QD:List (Nat×Nat):=ax [367,383,367,367,363,363,362,367,535,551,535,535,532,532,522,535]
theorem ady:aN (aj ai) 104 4 144 aag QD=true:=by kernel_rfl
def Ig:List (Nat×Nat):=ax [367,383,367,367,363,363,362,367,367,383,367,367,363,363,362,367]
theorem Wh:aN (aj ai) 104 4 160 Mq Ig=true:=by kernel_rfl
def Ie:List (Nat×Nat):=ax [367,383,367,367,363,363,362,367,367,383,367,367,363,363,362,367]
theorem We:aN (aj ai) 104 4 176 Mo Ie=true:=by kernel_rfl
def Ic:List (Nat×Nat):=ax [239,367,295,239,295,367,407,239,239,159,295,23,295,239,407,239]
theorem Wd:aN (aj ai) 104 4 192 Mm Ic=true:=by kernel_rfl
def Ib:List (Nat×Nat):=ax [239,367,295,391,295,367,239,239,239,159,295,391,295,79,407,239]
theorem V9:aN (aj ai) 104 4 208 Ml Ib=true:=by kernel_rfl
def Ia:List (Nat×Nat):=ax [239,363,295,492,295,363,239,239,239,339,295,487,295,79,239,239]
theorem V8:aN (aj ai) 104 4 224 Mk Ia=true:=by kernel_rfl
def Hz:List (Nat×Nat):=ax [239,367,295,159,295,367,239,239,239,484,295,159,295,79,239,239]
theorem V7:aN (aj ai) 104 4 240 Mj Hz=true:=by kernel_rfl
def air:List (List (Nat×Nat)):=[QM,QL,QK,QJ,QI,QH,QG,QF,QE,QD,Ig,Ie,Ic,Ib,Ia,Hz]
theorem aop:zg (aj ai) 104 4 0 od4 air:=zy adH (zy adG (zy adF (zy adE (zy adD (zy adC (zy adB (zy adA (zy adz (zy ady (zy Wh (zy We (zy Wd (zy V9 (zy V8 (zy V7 (trivial))))))))))))))))
end Go.Proofs.YtceaodnohnekkaaGreatDoor.Ex
