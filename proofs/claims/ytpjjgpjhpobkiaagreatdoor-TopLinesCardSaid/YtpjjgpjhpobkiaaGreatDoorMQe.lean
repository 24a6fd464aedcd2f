/- What tool.Assemble answers at the known text. -/
import Derived.Test.YtpjjgpjhpobkiaaGreatDoorMQc
import Derived.Test.YtpjjgpjhpobkiaaGreatDoorMQd
namespace Go.Proofs.YtpjjgpjhpobkiaaGreatDoor
namespace Ex
open Go.RowKit
def SFr:aj:=qX (aad bE 8 NQ) (qX (aad bE 271 NS) SLp)
theorem ake:ai Tryz.prog SFr:=bN (J8 (aT fB Rh) bE _ _ NP) (bN (J8 (aT fB Rh) bE _ _ NR) Rh)
def Kq:List gy:=[([.str [32,79,82,71,32,49,48,48,72,10,120,58,32,76,68,32,40,73,88,43,49,41,44,53,10,32,74,82,32,120]],.tuple [.str [58,48,54,48,49,48,48,48,48,68,68,51,54,48,49,48,53,49,56,70,65,67,69,10,58,48,48,48,48,48,48,48,49,70,70,10],.bT],1,[])]
theorem QH:(Kq.all (di (dx SFr) bE 13))=true:=by kernel_rfl
theorem Qe:ai Tryz.prog (eH bE 13 (iQ bE Kq)):=fu (aT fB ake) bE _ _ QH
end Ex
