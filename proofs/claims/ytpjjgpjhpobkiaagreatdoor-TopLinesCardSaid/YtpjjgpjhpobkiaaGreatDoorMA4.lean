/- What table.At answers: page 5. -/
import Derived.Test.YtpjjgpjhpobkiaaGreatDoorMK6
set_option maxHeartbeats 0
namespace Go.Proofs.YtpjjgpjhpobkiaaGreatDoor
namespace Ex
open Go.RowKit
theorem aj0:eX (KA (atB (dx p9) 248 5) 5) 16:=⟨zt,zt,zt,zt,zt,zt,zt,zt,zt,zt,zt,zt,zt,zt,zt,zt,trivial⟩
end Ex
