/- What table.At answers, as a contract. -/
import Derived.Test.YtceaodnohnekkaaGreatDoorMK7
import Derived.Test.YtceaodnohnekkaaGreatDoorMA0
import Derived.Test.YtceaodnohnekkaaGreatDoorMA1
import Derived.Test.YtceaodnohnekkaaGreatDoorMA2
import Derived.Test.YtceaodnohnekkaaGreatDoorMA3
import Derived.Test.YtceaodnohnekkaaGreatDoorMA4
import Derived.Test.YtceaodnohnekkaaGreatDoorMA5
namespace Go.Proofs.YtceaodnohnekkaaGreatDoor.Ex
open Go.RowKit
def amN:List (List (List (Nat×Nat))):=[aiv,aiu,ait,ais,air,aiq,aip]
theorem ada:aeG (aj ai) 104 0 Ga amN:=zy aot (zy aos (zy aor (zy aoq (zy aop (zy aoo (zy aon (trivial)))))))
theorem aom:ah Tryz.prog (fF bC 104 (opM amN)):=amG (bD gN nR) ada
def SAt:ag:=uR (fF bC 104 (opM amN)) SCf
theorem EE:ah Tryz.prog SAt:=dR aom aoy
end Go.Proofs.YtceaodnohnekkaaGreatDoor.Ex
