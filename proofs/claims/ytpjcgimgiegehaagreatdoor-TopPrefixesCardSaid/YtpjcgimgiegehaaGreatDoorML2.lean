/- What lookup answers: a part of the opcodes. -/
import Derived.Test.YtpjcgimgiegehaaGreatDoorMK4
namespace Go.Proofs.YtpjcgimgiegehaaGreatDoor.Ex

theorem lkMain128 : ((List.range' 128 32).all (chunkB ptMain rlMain)) = true := by kernel_rfl
theorem lkMain160 : ((List.range' 160 32).all (chunkB ptMain rlMain)) = true := by kernel_rfl
theorem lkMain192 : ((List.range' 192 32).all (chunkB ptMain rlMain)) = true := by kernel_rfl
theorem lkMain224 : ((List.range' 224 32).all (chunkB ptMain rlMain)) = true := by kernel_rfl
end Go.Proofs.YtpjcgimgiegehaaGreatDoor.Ex
