/- What size.Fixed answers at the statements of the known text. -/
import Derived.Test.YtpjcgimgiegehaaGreatDoorMK4
import Derived.Test.YtpjcgimgiegehaaGreatDoorMQb
namespace Go.Proofs.YtpjcgimgiegehaaGreatDoor.Ex
open Go.RowKit

def feFixed0 : FEnt := ([.agg [.str [], .str [79, 82, 71], .nils, .slice 99 0 0 1 none]], 8745, [(99, .cells [.str [], .ptr 83 0] 350 (some 2)), (83, .cells [.int .i64 (.ofNat 1), .int .i64 (.ofNat 256), .str [], .nilp, .nilp] 363 none)], .tuple [.int .i64 (.ofNat 0), .bool true], 8746, [])
theorem feFixed0_ok : fentB (runS SLp) glT 236 feFixed0 = true := by kernel_rfl
def feFixed1 : FEnt := ([.agg [.str [120], .str [76, 68], .slice 485 0 0 2 none, .nils]], 8763, [(485, .cells [.int .i64 (.ofNat 3), .str [73, 88], .ptr 370 0, .int .i64 (.ofNat 4), .str [], .ptr 467 0] 459 (some 3)), (467, .cells [.int .i64 (.ofNat 1), .int .i64 (.ofNat 5), .str [], .nilp, .nilp] 363 none), (370, .cells [.int .i64 (.ofNat 4), .int .i64 (.ofNat 0), .str [43], .ptr 369 0, .nilp] 363 none), (369, .cells [.int .i64 (.ofNat 1), .int .i64 (.ofNat 1), .str [], .nilp, .nilp] 363 none)], .tuple [.int .i64 (.ofNat 4), .bool true], 22584, [])
theorem feFixed1_ok : fentB (runS SLp) glT 236 feFixed1 = true := by kernel_rfl
def feFixed2 : FEnt := ([.agg [.str [], .str [74, 82], .slice 7603 0 0 1 none, .nils]], 22590, [(7603, .cells [.int .i64 (.ofNat 4), .str [], .ptr 7572 0] 459 (some 3)), (7572, .cells [.int .i64 (.ofNat 2), .int .i64 (.ofNat 0), .str [120], .nilp, .nilp] 363 none)], .tuple [.int .i64 (.ofNat 2), .bool true], 24803, [])
theorem feFixed2_ok : fentB (runS SLp) glT 236 feFixed2 = true := by kernel_rfl
def fesFixed : List FEnt := [feFixed0, feFixed1, feFixed2]
theorem fesFixed_ok : (fesFixed.all (fentB (runS SLp) glT 236)) = true := by
  unfold fesFixed
  simp only [List.all_cons, List.all_nil, feFixed0_ok, feFixed1_ok, feFixed2_ok, Bool.and_self]
end Go.Proofs.YtpjcgimgiegehaaGreatDoor.Ex
