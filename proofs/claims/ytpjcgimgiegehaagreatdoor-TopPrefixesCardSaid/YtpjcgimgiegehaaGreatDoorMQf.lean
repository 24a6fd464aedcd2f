/- What tool.Disassemble answers at the known text. -/
import Derived.Test.YtpjcgimgiegehaaGreatDoorMQb
namespace Go.Proofs.YtpjcgimgiegehaaGreatDoor.Ex
open Go.RowKit

def entsDis0 : List Ent := [
  ([.str [58, 48, 54, 48, 49, 48, 48, 48, 48, 68, 68, 51, 54, 48, 49, 48, 53, 49, 56, 70, 65, 67, 69, 10, 58, 48, 48, 48, 48, 48, 48, 48, 49, 70, 70, 10]], .tuple [.str [9, 79, 82, 71, 32, 49, 48, 48, 72, 10, 9, 76, 68, 32, 40, 73, 88, 43, 49, 41, 44, 53, 10, 9, 74, 82, 32, 36, 45, 52, 10], .agg [.int .i64 (.ofNat 0), .int .i64 (.ofNat 0)]], 8291, [])]
theorem entsDis0_ok : (entsDis0.all (entB (runS SWd) glT 14)) = true := by kernel_rfl
def entsDis : List Ent := entsDis0
theorem entsDis_ok : (entsDis.all (entB (runS SWd) glT 14)) = true := by
  unfold entsDis
  exact entsDis0_ok
theorem memoDis_ok : CallOk Tryz.prog (memoS glT 14 (memoT glT entsDis)) := memoT_ok (runS_ok hMix SWd_ok) glT _ _ entsDis_ok
end Go.Proofs.YtpjcgimgiegehaaGreatDoor.Ex
