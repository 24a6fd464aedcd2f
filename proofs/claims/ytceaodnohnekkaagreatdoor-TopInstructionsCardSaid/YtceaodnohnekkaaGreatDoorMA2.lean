/- What table.At answers: page 3. -/
import Derived.Test.YtceaodnohnekkaaGreatDoorMK3
import Derived.Test.YtceaodnohnekkaaGreatDoorMK7
namespace Go.Proofs.YtceaodnohnekkaaGreatDoor.Ex
open Go.RowKit
def QW:List (Nat×Nat):=ax [159,423,511,367,367,367,423,159,487,516,511,367,383,383,439,159]
theorem adR:aN (aj ai) 104 3 0 aaz QW=true:=by kernel_rfl
def QV:List (Nat×Nat):=ax [239,423,511,367,367,367,423,159,239,516,511,367,367,367,423,159]
theorem adQ:aN (aj ai) 104 3 16 aay QV=true:=by kernel_rfl
def QU:List (Nat×Nat):=ax [295,420,372,363,363,363,420,159,295,516,372,363,363,363,420,159]
theorem adP:aN (aj ai) 104 3 32 aax QU=true:=by kernel_rfl
def QT:List (Nat×Nat):=ax [295,423,391,367,362,362,410,159,295,516,391,367,367,367,423,159]
theorem adO:aN (aj ai) 104 3 48 aaw QT=true:=by kernel_rfl
def QS:List (Nat×Nat):=ax [551,567,551,551,548,548,538,551,567,583,567,567,564,564,554,567]
theorem adN:aN (aj ai) 104 3 64 aav QS=true:=by kernel_rfl
def QR:List (Nat×Nat):=ax [551,567,551,551,548,548,538,551,551,567,551,551,548,548,538,551]
theorem adM:aN (aj ai) 104 3 80 aau QR=true:=by kernel_rfl
def QQ:List (Nat×Nat):=ax [548,564,548,548,548,548,538,548,548,564,548,548,548,548,538,548]
theorem adL:aN (aj ai) 104 3 96 aat QQ=true:=by kernel_rfl
def QP:List (Nat×Nat):=ax [538,554,538,538,538,538,159,538,551,567,551,551,548,548,538,551]
theorem adK:aN (aj ai) 104 3 112 aas QP=true:=by kernel_rfl
def QO:List (Nat×Nat):=ax [535,551,535,535,532,532,522,535,535,551,535,535,532,532,522,535]
theorem adJ:aN (aj ai) 104 3 128 aar QO=true:=by kernel_rfl
def QN:List (Nat×Nat):=ax [367,383,367,367,363,363,362,367,535,551,535,535,532,532,522,535]
theorem adI:aN (aj ai) 104 3 144 aaq QN=true:=by kernel_rfl
def Im:List (Nat×Nat):=ax [367,383,367,367,363,363,362,367,367,383,367,367,363,363,362,367]
theorem Wp:aN (aj ai) 104 3 160 Mx Im=true:=by kernel_rfl
def Il:List (Nat×Nat):=ax [367,383,367,367,363,363,362,367,367,383,367,367,363,363,362,367]
theorem Wo:aN (aj ai) 104 3 176 Mw Il=true:=by kernel_rfl
def Ik:List (Nat×Nat):=ax [239,367,295,239,295,367,407,239,239,159,295,23,295,239,407,239]
theorem Wn:aN (aj ai) 104 3 192 Mv Ik=true:=by kernel_rfl
def Ij:List (Nat×Nat):=ax [239,367,295,391,295,367,239,239,239,159,295,391,295,79,407,239]
theorem Wm:aN (aj ai) 104 3 208 Mt Ij=true:=by kernel_rfl
def Ii:List (Nat×Nat):=ax [239,363,295,492,295,363,239,239,239,339,295,487,295,79,239,239]
theorem Wl:aN (aj ai) 104 3 224 Ms Ii=true:=by kernel_rfl
def Ih:List (Nat×Nat):=ax [239,367,295,159,295,367,239,239,239,484,295,159,295,79,239,239]
theorem Wj:aN (aj ai) 104 3 240 Mr Ih=true:=by kernel_rfl
def ais:List (List (Nat×Nat)):=[QW,QV,QU,QT,QS,QR,QQ,QP,QO,QN,Im,Il,Ik,Ij,Ii,Ih]
theorem aoq:zg (aj ai) 104 3 0 od3 ais:=zy adR (zy adQ (zy adP (zy adO (zy adN (zy adM (zy adL (zy adK (zy adJ (zy adI (zy Wp (zy Wo (zy Wn (zy Wm (zy Wl (zy Wj (trivial))))))))))))))))
end Go.Proofs.YtceaodnohnekkaaGreatDoor.Ex
