/- What table.At answers: page 3. -/
import Derived.Test.YtpjjgpjhpobkiaaGreatDoorMK6
set_option maxHeartbeats 0
namespace Go.Proofs.YtpjjgpjhpobkiaaGreatDoor
namespace Ex
open Go.RowKit
theorem aj5:eX (KA (atB (dx p9) 248 3) 3) 16:=⟨zt,zt,zt,zt,zt,zt,zt,zt,zt,zt,zt,zt,zt,zt,zt,zt,trivial⟩
end Ex
