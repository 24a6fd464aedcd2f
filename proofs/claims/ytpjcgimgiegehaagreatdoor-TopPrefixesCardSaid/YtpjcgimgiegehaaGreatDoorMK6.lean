/- What the reference's At answers, as a contract. -/
import Derived.Test.YtpjcgimgiegehaaGreatDoorMRa
import Derived.Test.YtpjcgimgiegehaaGreatDoorMRb
import Derived.Test.YtpjcgimgiegehaaGreatDoorMRc
import Derived.Test.YtpjcgimgiegehaaGreatDoorMRd
import Derived.Test.YtpjcgimgiegehaaGreatDoorMRe
namespace Go.Proofs.YtpjcgimgiegehaaGreatDoor.Ex
open Go.RowKit

def nxrt : List (List (List (Nat × Nat))) := [nxrt0, nxrt1, nxrt2, nxrt3, nxrt4, nxrt5, nxrt6]
theorem rt_ok : rChkT (runR S1) 7 0 ods nxrt := And.intro rt0_ok (And.intro rt1_ok (And.intro rt2_ok (And.intro rt3_ok (And.intro rt4_ok (And.intro rt5_ok (And.intro rt6_ok (trivial)))))))
theorem rtM_ok : CallOk Tryz.prog (memoS glT 7 (ropM nxrt)) := ropM_ok (runR_ok hMix S1_ok) rt_ok
end Go.Proofs.YtpjcgimgiegehaaGreatDoor.Ex
