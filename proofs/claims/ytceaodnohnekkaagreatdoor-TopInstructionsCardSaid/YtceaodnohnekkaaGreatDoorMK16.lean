/- The short program of the top statements is assembled and disassembled. -/
import Derived.Test.YtceaodnohnekkaaGreatDoorMK10
import Derived.Test.YtceaodnohnekkaaGreatDoorMK13
namespace Go.Proofs.YtceaodnohnekkaaGreatDoor
open Go.RowKit Ex
theorem Ce (w:World)(hG:gJ w):Calls Tryz.prog 4 #[] w fun e w'=>e= .returned (.bool true)∧Below w.heap.size w w':=by
 have h:dG (aj STl) bC 4 ([],.bool true,49555,[])=true:=by
  have:=Ef
  simp only[tJ,qa,List.all_cons,List.all_nil,Bool.and_true] at this
  exact this
 obtain⟨_,hr⟩:=kZ h
 obtain⟨_,_,q3⟩:=bD gN aow _ _ _ _ _ hr
 refine Calls.mono (show Calls Tryz.prog 4 #[] w _ from q3 w iy w trivial (Ae hG _)) ?_
 rintro e w' ⟨ρ',rfl,hP,_⟩
 exact⟨rfl,hP.ib rfl⟩
end Go.Proofs.YtceaodnohnekkaaGreatDoor
