/- Parts of the proof of TopLines. -/
import Derived.Test.YtpjjgpjhpobkiaaGreatDoorMQe
import Derived.Test.YtpjjgpjhpobkiaaGreatDoorMQf
namespace Go.Proofs.YtpjjgpjhpobkiaaGreatDoor
open Go.RowKit Ex
namespace Ex
open Go.RowKit
def STl:aj:=qX (eH bE 13 (iQ bE Kq)) (eH bE 14 (iQ bE Kn))
theorem akd:ai Tryz.prog STl:=bN Qe Qd
theorem afv:IV Tryz.prog bE 4 [] (.bool true,1,[]):=qI (aT fB akd) rfl zz
end Ex
theorem IE (w:World)(hG:eT w):Calls Tryz.prog 4 #[] w fun e w'=>e= .returned (.bool true)∧Below w.heap.size w w':=by
 refine wW (show Calls Tryz.prog 4 #[] w _ from afv.2.2 w iY w (CY hG _)) ?_
 rintro e w' ⟨ρ',rfl,hP,_⟩;exact⟨rfl,hP.fZ rfl⟩
