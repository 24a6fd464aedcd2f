/- Parts of the proof of TopLines. -/
import Derived.Test.YtpjjgpjhpobkiaaGreatDoorMK4
set_option maxHeartbeats 0
namespace Go.Proofs.YtpjjgpjhpobkiaaGreatDoor
namespace Ex
open Go.RowKit
theorem ahC:eX (KA (WQ (Jh S1) 34 0) 0) 16:=⟨zt,zt,zt,zt,zt,zt,zt,zt,zt,zt,zt,zt,zt,zt,zt,zt,trivial⟩
theorem ahB:eX (KA (WQ (Jh S1) 34 1) 1) 16:=⟨zt,zt,zt,zt,zt,zt,zt,zt,zt,zt,zt,zt,zt,zt,zt,zt,trivial⟩
theorem ahA:eX (KA (WQ (Jh S1) 34 2) 2) 16:=⟨zt,zt,zt,zt,zt,zt,zt,zt,zt,zt,zt,zt,zt,zt,zt,zt,trivial⟩
theorem ahz:eX (KA (WQ (Jh S1) 34 3) 3) 16:=⟨zt,zt,zt,zt,zt,zt,zt,zt,zt,zt,zt,zt,zt,zt,zt,zt,trivial⟩
theorem ahy:eX (KA (WQ (Jh S1) 34 4) 4) 16:=⟨zt,zt,zt,zt,zt,zt,zt,zt,zt,zt,zt,zt,zt,zt,zt,zt,trivial⟩
theorem ahx:eX (KA (WQ (Jh S1) 34 5) 5) 16:=⟨zt,zt,zt,zt,zt,zt,zt,zt,zt,zt,zt,zt,zt,zt,zt,zt,trivial⟩
theorem ahw:eX (KA (WQ (Jh S1) 34 6) 6) 16:=⟨zt,zt,zt,zt,zt,zt,zt,zt,zt,zt,zt,zt,zt,zt,zt,zt,trivial⟩
theorem afX:∀p,p < 7→eX (KA (WQ (Jh S1) 34 p) p) 16:=Yr ⟨ahC,ahB,ahA,ahz,ahy,ahx,ahw⟩
end Ex
