/- What tool.Disassemble answers at the known text. -/
import Derived.Test.YtpjjgpjhpobkiaaGreatDoorMQa
namespace Go.Proofs.YtpjjgpjhpobkiaaGreatDoor
namespace Ex
open Go.RowKit
def Kn:List gy:=[([.str [58,48,54,48,49,48,48,48,48,68,68,51,54,48,49,48,53,49,56,70,65,67,69,10,58,48,48,48,48,48,48,48,49,70,70,10]],.tuple [.str [9,79,82,71,32,49,48,48,72,10,9,76,68,32,40,73,88,43,49,41,44,53,10,9,74,82,32,36,45,52,10],.agg [.int .i64 (.ofNat 0),.int .i64 (.ofNat 0)]],1,[])]
theorem QF:(Kn.all (di (dx SWd) bE 14))=true:=by kernel_rfl
theorem Qd:ai Tryz.prog (eH bE 14 (iQ bE Kn)):=fu (aT fB Rc) bE _ _ QF
end Ex
