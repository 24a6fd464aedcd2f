/- What lookup answers: a part of the opcodes. -/
import Derived.Test.YtpjcgimgiegehaaGreatDoorMK4
namespace Go.Proofs.YtpjcgimgiegehaaGreatDoor.Ex

theorem lkEd96 : ((List.range' 96 32).all (chunkB ptEd rlEd)) = true := by kernel_rfl
theorem lkEd128 : ((List.range' 128 32).all (chunkB ptEd rlEd)) = true := by kernel_rfl
theorem lkEd160 : ((List.range' 160 32).all (chunkB ptEd rlEd)) = true := by kernel_rfl
theorem lkEd192 : ((List.range' 192 32).all (chunkB ptEd rlEd)) = true := by kernel_rfl
theorem lkEd224 : ((List.range' 224 32).all (chunkB ptEd rlEd)) = true := by kernel_rfl
end Go.Proofs.YtpjcgimgiegehaaGreatDoor.Ex
