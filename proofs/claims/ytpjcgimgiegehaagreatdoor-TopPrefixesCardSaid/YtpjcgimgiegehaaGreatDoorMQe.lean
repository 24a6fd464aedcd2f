/- What tool.Assemble answers at the known text. -/
import Derived.Test.YtpjcgimgiegehaaGreatDoorMQc
import Derived.Test.YtpjcgimgiegehaaGreatDoorMQd
namespace Go.Proofs.YtpjcgimgiegehaaGreatDoor.Ex
open Go.RowKit

def SFr : CallF := orS (frS glT 236 fesFixed) (orS (frS glT 190 fesBytes) SLp)
theorem SFr_ok : CallOk Tryz.prog SFr := orS_ok (frS_ok (runS_ok hMix SLp_ok) glT _ _ fesFixed_ok) (orS_ok (frS_ok (runS_ok hMix SLp_ok) glT _ _ fesBytes_ok) SLp_ok)
def entsAsm0 : List Ent := [
  ([.str [32, 79, 82, 71, 32, 49, 48, 48, 72, 10, 120, 58, 32, 76, 68, 32, 40, 73, 88, 43, 49, 41, 44, 53, 10, 32, 74, 82, 32, 120]], .tuple [.str [58, 48, 54, 48, 49, 48, 48, 48, 48, 68, 68, 51, 54, 48, 49, 48, 53, 49, 56, 70, 65, 67, 69, 10, 58, 48, 48, 48, 48, 48, 48, 48, 49, 70, 70, 10], .nils], 41263, [])]
theorem entsAsm0_ok : (entsAsm0.all (entB (runS SFr) glT 13)) = true := by kernel_rfl
def entsAsm : List Ent := entsAsm0
theorem entsAsm_ok : (entsAsm.all (entB (runS SFr) glT 13)) = true := by
  unfold entsAsm
  exact entsAsm0_ok
theorem memoAsm_ok : CallOk Tryz.prog (memoS glT 13 (memoT glT entsAsm)) := memoT_ok (runS_ok hMix SFr_ok) glT _ _ entsAsm_ok
end Go.Proofs.YtpjcgimgiegehaaGreatDoor.Ex
