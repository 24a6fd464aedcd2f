/- What emit.Bytes answers at the statements of the known text. -/
import Derived.Test.YtpjcgimgiegehaaGreatDoorMK4
import Derived.Test.YtpjcgimgiegehaaGreatDoorMQb
namespace Go.Proofs.YtpjcgimgiegehaaGreatDoor.Ex
open Go.RowKit

def feBytes0 : FEnt := ([.agg [.str [], .str [79, 82, 71], .nils, .slice 99 0 0 1 none], .int .i64 (.ofNat 0), .map 24826], 24835, [(24826, .map [(.str [120], .int .i64 (.ofNat 256), 0)] 1), (99, .cells [.str [], .ptr 83 0] 350 (some 2)), (83, .cells [.int .i64 (.ofNat 1), .int .i64 (.ofNat 256), .str [], .nilp, .nilp] 363 none)], .tuple [.nils, .int .i64 (.ofNat 0)], 24839, [])
theorem feBytes0_ok : fentB (runS SLp) glT 190 feBytes0 = true := by kernel_rfl
def feBytes1 : FEnt := ([.agg [.str [120], .str [76, 68], .slice 485 0 0 2 none, .nils], .int .i64 (.ofNat 256), .map 24826], 24840, [(24826, .map [(.str [120], .int .i64 (.ofNat 256), 0)] 1), (485, .cells [.int .i64 (.ofNat 3), .str [73, 88], .ptr 370 0, .int .i64 (.ofNat 4), .str [], .ptr 467 0] 459 (some 3)), (467, .cells [.int .i64 (.ofNat 1), .int .i64 (.ofNat 5), .str [], .nilp, .nilp] 363 none), (370, .cells [.int .i64 (.ofNat 4), .int .i64 (.ofNat 0), .str [43], .ptr 369 0, .nilp] 363 none), (369, .cells [.int .i64 (.ofNat 1), .int .i64 (.ofNat 1), .str [], .nilp, .nilp] 363 none)], .tuple [.slice 38813 0 0 4 none, .int .i64 (.ofNat 0)], 38815, [(38813, .cells [.int .u8 (.ofNat 221), .int .u8 (.ofNat 54), .int .u8 (.ofNat 1), .int .u8 (.ofNat 5)] 5 (some 1))])
theorem feBytes1_ok : fentB (runS SLp) glT 190 feBytes1 = true := by kernel_rfl
def feBytes2 : FEnt := ([.agg [.str [], .str [74, 82], .slice 7603 0 0 1 none, .nils], .int .i64 (.ofNat 260), .map 24826], 38816, [(24826, .map [(.str [120], .int .i64 (.ofNat 256), 0)] 1), (7603, .cells [.int .i64 (.ofNat 4), .str [], .ptr 7572 0] 459 (some 3)), (7572, .cells [.int .i64 (.ofNat 2), .int .i64 (.ofNat 0), .str [120], .nilp, .nilp] 363 none)], .tuple [.slice 41158 0 0 2 none, .int .i64 (.ofNat 0)], 41160, [(41158, .cells [.int .u8 (.ofNat 24), .int .u8 (.ofNat 250)] 5 (some 1))])
theorem feBytes2_ok : fentB (runS SLp) glT 190 feBytes2 = true := by kernel_rfl
def fesBytes : List FEnt := [feBytes0, feBytes1, feBytes2]
theorem fesBytes_ok : (fesBytes.all (fentB (runS SLp) glT 190)) = true := by
  unfold fesBytes
  simp only [List.all_cons, List.all_nil, feBytes0_ok, feBytes1_ok, feBytes2_ok, Bool.and_self]
end Go.Proofs.YtpjcgimgiegehaaGreatDoor.Ex
