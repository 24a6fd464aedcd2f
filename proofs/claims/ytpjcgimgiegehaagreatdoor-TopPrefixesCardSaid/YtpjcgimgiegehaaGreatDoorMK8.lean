/- What table.At answers, as a contract. -/
import Derived.Test.YtpjcgimgiegehaaGreatDoorMK7
import Derived.Test.YtpjcgimgiegehaaGreatDoorMA0
import Derived.Test.YtpjcgimgiegehaaGreatDoorMA1
import Derived.Test.YtpjcgimgiegehaaGreatDoorMA2
import Derived.Test.YtpjcgimgiegehaaGreatDoorMA3
import Derived.Test.YtpjcgimgiegehaaGreatDoorMA4
import Derived.Test.YtpjcgimgiegehaaGreatDoorMA5
import Derived.Test.YtpjcgimgiegehaaGreatDoorMA6
namespace Go.Proofs.YtpjcgimgiegehaaGreatDoor.Ex
open Go.RowKit

def nxat : List (List (List (Nat × Nat))) := [nxat0, nxat1, nxat2, nxat3, nxat4, nxat5, nxat6]
theorem at_ok : ChkT (runS SLook) 4 0 ods nxat := And.intro at0_ok (And.intro at1_ok (And.intro at2_ok (And.intro at3_ok (And.intro at4_ok (And.intro at5_ok (And.intro at6_ok (trivial)))))))
theorem atM_ok : CallOk Tryz.prog (memoS glT 4 (opM nxat)) := opM_ok (runS_ok hMix SLook_ok) at_ok
def SAt : CallF := orS (memoS glT 4 (opM nxat)) SCf
theorem SAt_ok : CallOk Tryz.prog SAt := orS_ok atM_ok SCf_ok
end Go.Proofs.YtpjcgimgiegehaaGreatDoor.Ex
