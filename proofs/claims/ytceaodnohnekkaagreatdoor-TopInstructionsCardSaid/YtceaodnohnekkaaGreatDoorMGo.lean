/- No body of the program starts a goroutine. -/
import Derived.Test.YtceaodnohnekkaaGreatDoorMZ
import Derived.Test.YtceaodnohnekkaaGreatDoorTie
namespace Go.Proofs.YtceaodnohnekkaaGreatDoor
theorem UG:Tryz.prog.funcs.any Func.goes=false:=by kernel_rfl
theorem Vf {P:Program}(h:P.funcs.any Func.goes=false)(f:FuncId):P.goes f=false:=by
 have h1:∀g:Nat,(P.funcs[g]?).any Func.goes=false:=fun g=>by
  cases hg:P.funcs[g]? with
  |none=>rfl
  |some fn=>
   have:=(Array.any_eq_false.1 h)
   obtain⟨hlt,e⟩:=Array.getElem?_eq_some_iff.1 hg
   have h2:=this g hlt
   rw[e] at h2
   simpa using h2
 unfold Program.goes
 rw[h,Bool.and_false,Bool.or_false,List.any_eq_false]
 intro g _
 rw[h1 g]
 simp
theorem Vg {P:Program}(h:P.funcs.any Func.goes=false)(s:String):P.goesFrom s=false:=by
 unfold Program.goesFrom
 cases P.funcNamed s with
 |none=>rfl
 |some f=>exact Vf h f
theorem ag3 {P:Program}(h:P.funcs.any Func.goes=false)(s:String):P.goesAt .entering s=false:=by
 unfold Program.goesAt
 rw[Vg h]
 rfl
set_option maxRecDepth 100000 in
theorem ab7:false=Rows.topInstructionsRow.goesBy Tryz.prog:=(ag3 UG Rows.topInstructionsRow.func).symm
end Go.Proofs.YtceaodnohnekkaaGreatDoor
