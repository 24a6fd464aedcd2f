/- What word and named answer, kept. -/
import Derived.Test.YtpjcgimgiegehaaGreatDoorMK3
namespace Go.Proofs.YtpjcgimgiegehaaGreatDoor.Ex
open Go.RowKit

def entsWord : List Ent := [
  ([.str [40, 66, 67, 41]], .agg [.int .i64 (.ofNat 4), .int .i64 (.ofNat 0), .int .i64 (.ofNat 0)], 15, []),
  ([.str [40, 67, 41]], .agg [.int .i64 (.ofNat 4), .int .i64 (.ofNat 8), .int .i64 (.ofNat 0)], 17, []),
  ([.str [40, 68, 69, 41]], .agg [.int .i64 (.ofNat 4), .int .i64 (.ofNat 1), .int .i64 (.ofNat 0)], 15, []),
  ([.str [40, 72, 76, 41]], .agg [.int .i64 (.ofNat 4), .int .i64 (.ofNat 2), .int .i64 (.ofNat 0)], 15, []),
  ([.str [40, 83, 80, 41]], .agg [.int .i64 (.ofNat 4), .int .i64 (.ofNat 3), .int .i64 (.ofNat 0)], 15, []),
  ([.str [65]], .agg [.int .i64 (.ofNat 1), .int .i64 (.ofNat 7), .int .i64 (.ofNat 0)], 14, []),
  ([.str [65, 70]], .agg [.int .i64 (.ofNat 3), .int .i64 (.ofNat 4), .int .i64 (.ofNat 0)], 14, []),
  ([.str [65, 70, 39]], .agg [.int .i64 (.ofNat 3), .int .i64 (.ofNat 7), .int .i64 (.ofNat 0)], 14, []),
  ([.str [66]], .agg [.int .i64 (.ofNat 1), .int .i64 (.ofNat 0), .int .i64 (.ofNat 0)], 14, []),
  ([.str [66, 67]], .agg [.int .i64 (.ofNat 3), .int .i64 (.ofNat 0), .int .i64 (.ofNat 0)], 14, []),
  ([.str [67]], .agg [.int .i64 (.ofNat 1), .int .i64 (.ofNat 1), .int .i64 (.ofNat 0)], 16, []),
  ([.str [68]], .agg [.int .i64 (.ofNat 1), .int .i64 (.ofNat 2), .int .i64 (.ofNat 0)], 14, []),
  ([.str [68, 69]], .agg [.int .i64 (.ofNat 3), .int .i64 (.ofNat 1), .int .i64 (.ofNat 0)], 14, []),
  ([.str [69]], .agg [.int .i64 (.ofNat 1), .int .i64 (.ofNat 3), .int .i64 (.ofNat 0)], 14, []),
  ([.str [72]], .agg [.int .i64 (.ofNat 1), .int .i64 (.ofNat 4), .int .i64 (.ofNat 0)], 14, []),
  ([.str [72, 76]], .agg [.int .i64 (.ofNat 3), .int .i64 (.ofNat 2), .int .i64 (.ofNat 0)], 14, []),
  ([.str [73]], .agg [.int .i64 (.ofNat 9), .int .i64 (.ofNat 0), .int .i64 (.ofNat 0)], 14, []),
  ([.str [76]], .agg [.int .i64 (.ofNat 1), .int .i64 (.ofNat 5), .int .i64 (.ofNat 0)], 14, []),
  ([.str [82]], .agg [.int .i64 (.ofNat 9), .int .i64 (.ofNat 1), .int .i64 (.ofNat 0)], 14, []),
  ([.str [83, 80]], .agg [.int .i64 (.ofNat 3), .int .i64 (.ofNat 3), .int .i64 (.ofNat 0)], 14, [])]
theorem entsWord_ok : (entsWord.all (entB (runS S1) glT 56)) = true := by kernel_rfl
def SWord : CallF := orS (memoS glT 56 (memoT glT entsWord)) S1
theorem SWord_ok : CallOk Tryz.prog SWord := orS_ok (memoT_ok (runS_ok hMix S1_ok) glT _ _ entsWord_ok) S1_ok
def entsNamed : List Ent := [
  ([.str [66, 32, 67, 32, 68, 32, 69, 32, 72, 32, 76, 32, 40, 72, 76, 41, 32, 65], .int .i64 (.ofNat 0)], .agg [.int .i64 (.ofNat 1), .int .i64 (.ofNat 0), .int .i64 (.ofNat 0)], 16, []),
  ([.str [66, 32, 67, 32, 68, 32, 69, 32, 72, 32, 76, 32, 40, 72, 76, 41, 32, 65], .int .i64 (.ofNat 1)], .agg [.int .i64 (.ofNat 1), .int .i64 (.ofNat 1), .int .i64 (.ofNat 0)], 18, []),
  ([.str [66, 32, 67, 32, 68, 32, 69, 32, 72, 32, 76, 32, 40, 72, 76, 41, 32, 65], .int .i64 (.ofNat 2)], .agg [.int .i64 (.ofNat 1), .int .i64 (.ofNat 2), .int .i64 (.ofNat 0)], 16, []),
  ([.str [66, 32, 67, 32, 68, 32, 69, 32, 72, 32, 76, 32, 40, 72, 76, 41, 32, 65], .int .i64 (.ofNat 3)], .agg [.int .i64 (.ofNat 1), .int .i64 (.ofNat 3), .int .i64 (.ofNat 0)], 16, []),
  ([.str [66, 32, 67, 32, 68, 32, 69, 32, 72, 32, 76, 32, 40, 72, 76, 41, 32, 65], .int .i64 (.ofNat 4)], .agg [.int .i64 (.ofNat 1), .int .i64 (.ofNat 4), .int .i64 (.ofNat 0)], 16, []),
  ([.str [66, 32, 67, 32, 68, 32, 69, 32, 72, 32, 76, 32, 40, 72, 76, 41, 32, 65], .int .i64 (.ofNat 5)], .agg [.int .i64 (.ofNat 1), .int .i64 (.ofNat 5), .int .i64 (.ofNat 0)], 16, []),
  ([.str [66, 32, 67, 32, 68, 32, 69, 32, 72, 32, 76, 32, 40, 72, 76, 41, 32, 65], .int .i64 (.ofNat 6)], .agg [.int .i64 (.ofNat 4), .int .i64 (.ofNat 2), .int .i64 (.ofNat 0)], 17, []),
  ([.str [66, 32, 67, 32, 68, 32, 69, 32, 72, 32, 76, 32, 40, 72, 76, 41, 32, 65], .int .i64 (.ofNat 7)], .agg [.int .i64 (.ofNat 1), .int .i64 (.ofNat 7), .int .i64 (.ofNat 0)], 16, []),
  ([.str [66, 67, 32, 68, 69, 32, 72, 76, 32, 83, 80], .int .i64 (.ofNat 0)], .agg [.int .i64 (.ofNat 3), .int .i64 (.ofNat 0), .int .i64 (.ofNat 0)], 16, []),
  ([.str [66, 67, 32, 68, 69, 32, 72, 76, 32, 83, 80], .int .i64 (.ofNat 1)], .agg [.int .i64 (.ofNat 3), .int .i64 (.ofNat 1), .int .i64 (.ofNat 0)], 16, []),
  ([.str [66, 67, 32, 68, 69, 32, 72, 76, 32, 83, 80], .int .i64 (.ofNat 2)], .agg [.int .i64 (.ofNat 3), .int .i64 (.ofNat 2), .int .i64 (.ofNat 0)], 16, []),
  ([.str [66, 67, 32, 68, 69, 32, 72, 76, 32, 83, 80], .int .i64 (.ofNat 3)], .agg [.int .i64 (.ofNat 3), .int .i64 (.ofNat 3), .int .i64 (.ofNat 0)], 16, []),
  ([.str [66, 67, 32, 68, 69, 32, 72, 76, 32, 65, 70], .int .i64 (.ofNat 0)], .agg [.int .i64 (.ofNat 3), .int .i64 (.ofNat 0), .int .i64 (.ofNat 0)], 16, []),
  ([.str [66, 67, 32, 68, 69, 32, 72, 76, 32, 65, 70], .int .i64 (.ofNat 1)], .agg [.int .i64 (.ofNat 3), .int .i64 (.ofNat 1), .int .i64 (.ofNat 0)], 16, []),
  ([.str [66, 67, 32, 68, 69, 32, 72, 76, 32, 65, 70], .int .i64 (.ofNat 2)], .agg [.int .i64 (.ofNat 3), .int .i64 (.ofNat 2), .int .i64 (.ofNat 0)], 16, []),
  ([.str [66, 67, 32, 68, 69, 32, 72, 76, 32, 65, 70], .int .i64 (.ofNat 3)], .agg [.int .i64 (.ofNat 3), .int .i64 (.ofNat 4), .int .i64 (.ofNat 0)], 16, [])]
theorem entsNamed_ok : (entsNamed.all (entB (runS SWord) glT 94)) = true := by kernel_rfl
def SNamed : CallF := orS (memoS glT 94 (memoT glT entsNamed)) SWord
theorem SNamed_ok : CallOk Tryz.prog SNamed := orS_ok (memoT_ok (runS_ok hMix SWord_ok) glT _ _ entsNamed_ok) SWord_ok
end Go.Proofs.YtpjcgimgiegehaaGreatDoor.Ex
