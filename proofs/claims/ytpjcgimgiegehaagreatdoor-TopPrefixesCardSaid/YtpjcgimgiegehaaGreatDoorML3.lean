/- What lookup answers: a part of the opcodes. -/
import Derived.Test.YtpjcgimgiegehaaGreatDoorMK4
namespace Go.Proofs.YtpjcgimgiegehaaGreatDoor.Ex

theorem lkCb0 : ((List.range' 0 128).all (chunkB ptCb rlCb)) = true := by kernel_rfl
theorem lkCb128 : ((List.range' 128 128).all (chunkB ptCb rlCb)) = true := by kernel_rfl
theorem lkEd0 : ((List.range' 0 32).all (chunkB ptEd rlEd)) = true := by kernel_rfl
theorem lkEd32 : ((List.range' 32 32).all (chunkB ptEd rlEd)) = true := by kernel_rfl
theorem lkEd64 : ((List.range' 64 32).all (chunkB ptEd rlEd)) = true := by kernel_rfl
end Go.Proofs.YtpjcgimgiegehaaGreatDoor.Ex
