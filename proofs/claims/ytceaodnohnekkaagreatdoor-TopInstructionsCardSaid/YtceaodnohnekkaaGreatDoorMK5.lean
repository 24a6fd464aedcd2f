/- What the reference's At answers, as a contract. -/
import Derived.Test.YtceaodnohnekkaaGreatDoorMRa
import Derived.Test.YtceaodnohnekkaaGreatDoorMRb
namespace Go.Proofs.YtceaodnohnekkaaGreatDoor.Ex
open Go.RowKit
def awP:List (List (List (Nat×Nat))):=[ain,aim,ail,aik,aij,aii,aih]
theorem ah8:OJ (aL S1) 21 0 Ga awP:=zy amt (zy ams (zy amr (zy amq (zy amo (zy amn (zy amm (trivial)))))))
end Go.Proofs.YtceaodnohnekkaaGreatDoor.Ex
