/- What alive answers. -/
import Derived.Test.YtceaodnohnekkaaGreatDoorMQe
import Derived.Test.YtceaodnohnekkaaGreatDoorMQf
namespace Go.Proofs.YtceaodnohnekkaaGreatDoor.Ex
open Go.RowKit
def STl:ag:=uR (fF bC 13 (iq bC vQ)) (fF bC 14 (iq bC vP))
theorem aow:ah Tryz.prog STl:=dR M0 MZ
def qa:List dN:=[
 ([],.bool true,49555,[])]
theorem z8:(qa.all (dG (aj STl) bC 4))=true:=by kernel_rfl
def tJ:List dN:=qa
theorem Ef:(tJ.all (dG (aj STl) bC 4))=true:=by
 unfold tJ
 exact z8
end Go.Proofs.YtceaodnohnekkaaGreatDoor.Ex
