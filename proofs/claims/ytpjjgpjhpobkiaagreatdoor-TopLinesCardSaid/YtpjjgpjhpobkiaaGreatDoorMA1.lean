/- What table.At answers: page 1. -/
import Derived.Test.YtpjjgpjhpobkiaaGreatDoorMK6
set_option maxHeartbeats 0
namespace Go.Proofs.YtpjjgpjhpobkiaaGreatDoor
namespace Ex
open Go.RowKit
theorem aj7:eX (KA (atB (dx p9) 248 1) 1) 16:=⟨zt,zt,zt,zt,zt,zt,zt,zt,zt,zt,zt,zt,zt,zt,zt,zt,trivial⟩
end Ex
