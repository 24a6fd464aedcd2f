/- What alive answers. -/
import Derived.Test.YtpjcgimgiegehaaGreatDoorMQe
import Derived.Test.YtpjcgimgiegehaaGreatDoorMQf
namespace Go.Proofs.YtpjcgimgiegehaaGreatDoor.Ex
open Go.RowKit

def STl : CallF := orS (memoS glT 13 (memoT glT entsAsm)) (memoS glT 14 (memoT glT entsDis))
theorem STl_ok : CallOk Tryz.prog STl := orS_ok memoAsm_ok memoDis_ok
def entsAlive0 : List Ent := [
  ([], .bool true, 49555, [])]
theorem entsAlive0_ok : (entsAlive0.all (entB (runS STl) glT 5)) = true := by kernel_rfl
def entsAlive : List Ent := entsAlive0
theorem entsAlive_ok : (entsAlive.all (entB (runS STl) glT 5)) = true := by
  unfold entsAlive
  exact entsAlive0_ok
theorem memoAlive_ok : CallOk Tryz.prog (memoS glT 5 (memoT glT entsAlive)) := memoT_ok (runS_ok hMix STl_ok) glT _ _ entsAlive_ok
end Go.Proofs.YtpjcgimgiegehaaGreatDoor.Ex
