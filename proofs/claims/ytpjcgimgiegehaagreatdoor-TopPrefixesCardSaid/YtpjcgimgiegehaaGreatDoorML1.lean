/- What lookup answers: a part of the opcodes. -/
import Derived.Test.YtpjcgimgiegehaaGreatDoorMK4
namespace Go.Proofs.YtpjcgimgiegehaaGreatDoor.Ex

theorem lkMain0 : ((List.range' 0 32).all (chunkB ptMain rlMain)) = true := by kernel_rfl
theorem lkMain32 : ((List.range' 32 32).all (chunkB ptMain rlMain)) = true := by kernel_rfl
theorem lkMain64 : ((List.range' 64 32).all (chunkB ptMain rlMain)) = true := by kernel_rfl
theorem lkMain96 : ((List.range' 96 32).all (chunkB ptMain rlMain)) = true := by kernel_rfl
end Go.Proofs.YtpjcgimgiegehaaGreatDoor.Ex
