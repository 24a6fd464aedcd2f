/- What table.At answers: page 6. -/
import Derived.Test.YtpjjgpjhpobkiaaGreatDoorMK6
set_option maxHeartbeats 0
namespace Go.Proofs.YtpjjgpjhpobkiaaGreatDoor
namespace Ex
open Go.RowKit
theorem ajZ:eX (KA (atB (dx p9) 248 6) 6) 16:=⟨zt,zt,zt,zt,zt,zt,zt,zt,zt,zt,zt,zt,zt,zt,zt,zt,trivial⟩
end Ex
