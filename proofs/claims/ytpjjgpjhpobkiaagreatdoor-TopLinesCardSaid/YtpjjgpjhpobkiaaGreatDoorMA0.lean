/- Parts of the proof of TopLines. -/
import Derived.Test.YtpjjgpjhpobkiaaGreatDoorMK6
set_option maxHeartbeats 0
namespace Go.Proofs.YtpjjgpjhpobkiaaGreatDoor
namespace Ex
open Go.RowKit
theorem aj8:eX (KA (atB (dx p9) 248 0) 0) 16:=⟨zt,zt,zt,zt,zt,zt,zt,zt,zt,zt,zt,zt,zt,zt,zt,zt,trivial⟩
theorem aj6:eX (KA (atB (dx p9) 248 2) 2) 16:=⟨zt,zt,zt,zt,zt,zt,zt,zt,zt,zt,zt,zt,zt,zt,zt,zt,trivial⟩
end Ex
