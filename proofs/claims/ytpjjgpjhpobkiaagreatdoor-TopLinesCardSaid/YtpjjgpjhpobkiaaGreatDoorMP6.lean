/- The lines of instructions, checked: part 6. -/
import Derived.Test.YtpjjgpjhpobkiaaGreatDoorMK15
set_option maxHeartbeats 0
namespace Go.Proofs.YtpjjgpjhpobkiaaGreatDoor
open Go.RowKit Ex
theorem ahU (ν:Nat→Int×Int):eX (fun i=>ja (jA ν) 8 lT (15 * 6+i)) 15:=⟨zt,zt,zt,zt,zt,zt,zt,zt,zt,zt,zt,zt,zt,zt,zt,trivial⟩
