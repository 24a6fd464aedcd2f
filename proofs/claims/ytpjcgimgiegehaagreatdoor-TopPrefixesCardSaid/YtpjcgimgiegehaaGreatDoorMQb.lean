/- Parts of the proof of TopPrefixes, in one text: ExQ4, ExQ5. -/
import Derived.Test.YtpjcgimgiegehaaGreatDoorMQa
/- What words of mnemonics, names of operands and registers are. -/
namespace Go.Proofs.YtpjcgimgiegehaaGreatDoor.Ex
open Go.RowKit

theorem nm_ok : ([nmLd, nmJr].all (nentB (runS SAt) glT 370)) = true := by
  simp only [List.all_cons, List.all_nil, nmLd_ok, nmJr_ok, Bool.and_self]
def SNm : CallF := orS (rowS glT 370 [nmLd, nmJr]) SSet
theorem SNm_ok : CallOk Tryz.prog SNm := orS_ok (rowS_ok (runS_ok hMix SAt_ok) glT _ _ nm_ok) SSet_ok
def entsCword0 : List Ent := [
  ([.str [83, 85, 66, 32, 65, 78, 68, 32, 88, 79, 82, 32, 79, 82, 32, 67, 80], .str [76, 68]], .bool false, 1, []),
  ([.str [65, 68, 68, 32, 65, 68, 67, 32, 83, 66, 67], .str [76, 68]], .bool false, 1, [])]
theorem entsCword0_ok : (entsCword0.all (entB (runS SNm) glT 326)) = true := by kernel_rfl
def entsCword1 : List Ent := [
  ([.str [66, 73, 84, 32, 82, 69, 83, 32, 83, 69, 84, 32, 73, 77, 32, 82, 83, 84, 32, 79, 85, 84], .str [76, 68]], .bool false, 1, []),
  ([.str [74, 80, 32, 67, 65, 76, 76], .str [76, 68]], .bool false, 1, [])]
theorem entsCword1_ok : (entsCword1.all (entB (runS SNm) glT 326)) = true := by kernel_rfl
def entsCword2 : List Ent := [
  ([.str [83, 85, 66, 32, 65, 78, 68, 32, 88, 79, 82, 32, 79, 82, 32, 67, 80], .str [74, 82]], .bool false, 1, []),
  ([.str [65, 68, 68, 32, 65, 68, 67, 32, 83, 66, 67], .str [74, 82]], .bool false, 1, [])]
theorem entsCword2_ok : (entsCword2.all (entB (runS SNm) glT 326)) = true := by kernel_rfl
def entsCword3 : List Ent := [
  ([.str [66, 73, 84, 32, 82, 69, 83, 32, 83, 69, 84, 32, 73, 77, 32, 82, 83, 84, 32, 79, 85, 84], .str [74, 82]], .bool false, 1, []),
  ([.str [74, 80, 32, 67, 65, 76, 76], .str [74, 82]], .bool false, 1, [])]
theorem entsCword3_ok : (entsCword3.all (entB (runS SNm) glT 326)) = true := by kernel_rfl
def entsCword : List Ent := entsCword0 ++ entsCword1 ++ entsCword2 ++ entsCword3
theorem entsCword_ok : (entsCword.all (entB (runS SNm) glT 326)) = true := by
  unfold entsCword
  simp only [List.all_append, entsCword0_ok, entsCword1_ok, entsCword2_ok, entsCword3_ok, Bool.and_self]
theorem memoCword_ok : CallOk Tryz.prog (memoS glT 326 (memoT glT entsCword)) := memoT_ok (runS_ok hMix SNm_ok) glT _ _ entsCword_ok
def entsOnamed0 : List Ent := [
  ([.str []], .nils, 11, []),
  ([.str [73, 88]], .slice 8 0 0 1 none, 13, [(8, .cells [.int .i64 (.ofNat 3), .int .i64 (.ofNat 5), .int .i64 (.ofNat 0)] 63 (some 3))]),
  ([.str [120]], .nils, 11, []),
  ([.str [88]], .nils, 11, []),
  ([.str [72, 76]], .slice 8 0 0 1 none, 13, [(8, .cells [.int .i64 (.ofNat 3), .int .i64 (.ofNat 2), .int .i64 (.ofNat 0)] 63 (some 3))])]
theorem entsOnamed0_ok : (entsOnamed0.all (entB (runS SNm) glT 92)) = true := by kernel_rfl
def entsOnamed : List Ent := entsOnamed0
theorem entsOnamed_ok : (entsOnamed.all (entB (runS SNm) glT 92)) = true := by
  unfold entsOnamed
  exact entsOnamed0_ok
theorem memoOnamed_ok : CallOk Tryz.prog (memoS glT 92 (memoT glT entsOnamed)) := memoT_ok (runS_ok hMix SNm_ok) glT _ _ entsOnamed_ok
def entsAreg0 : List Ent := [
  ([.str []], .tuple [.int .i64 (.ofNat 0), .bool false], 11, []),
  ([.str [73, 88]], .tuple [.int .i64 (.ofNat 5), .bool true], 22, [])]
theorem entsAreg0_ok : (entsAreg0.all (entB (runS SNm) glT 426)) = true := by kernel_rfl
def entsAreg : List Ent := entsAreg0
theorem entsAreg_ok : (entsAreg.all (entB (runS SNm) glT 426)) = true := by
  unfold entsAreg
  exact entsAreg0_ok
theorem memoAreg_ok : CallOk Tryz.prog (memoS glT 426 (memoT glT entsAreg)) := memoT_ok (runS_ok hMix SNm_ok) glT _ _ entsAreg_ok
def SWd : CallF := orS (memoS glT 326 (memoT glT entsCword)) (orS (memoS glT 92 (memoT glT entsOnamed)) (orS (memoS glT 426 (memoT glT entsAreg)) SNm))
theorem SWd_ok : CallOk Tryz.prog SWd := orS_ok memoCword_ok (orS_ok memoOnamed_ok (orS_ok memoAreg_ok SNm_ok))
end Go.Proofs.YtpjcgimgiegehaaGreatDoor.Ex

/- What line.Parse answers at the lines of the known text. -/
namespace Go.Proofs.YtpjcgimgiegehaaGreatDoor.Ex
open Go.RowKit

def entsLparse0 : List Ent := [
  ([.str [32, 79, 82, 71, 32, 49, 48, 48, 72]], .tuple [.agg [.str [], .str [79, 82, 71], .nils, .slice 90 0 0 1 none], .int .i64 (.ofNat 0)], 92, [(90, .cells [.str [], .ptr 74 0] 350 (some 2)), (74, .cells [.int .i64 (.ofNat 1), .int .i64 (.ofNat 256), .str [], .nilp, .nilp] 363 none)])]
theorem entsLparse0_ok : (entsLparse0.all (entB (runS SWd) glT 129)) = true := by kernel_rfl
def entsLparse1 : List Ent := [
  ([.str [120, 58, 32, 76, 68, 32, 40, 73, 88, 43, 49, 41, 44, 53]], .tuple [.agg [.str [120], .str [76, 68], .slice 381 0 0 2 none, .nils], .int .i64 (.ofNat 0)], 7330, [(381, .cells [.int .i64 (.ofNat 3), .str [73, 88], .ptr 266 0, .int .i64 (.ofNat 4), .str [], .ptr 363 0] 459 (some 3)), (363, .cells [.int .i64 (.ofNat 1), .int .i64 (.ofNat 5), .str [], .nilp, .nilp] 363 none), (266, .cells [.int .i64 (.ofNat 4), .int .i64 (.ofNat 0), .str [43], .ptr 265 0, .nilp] 363 none), (265, .cells [.int .i64 (.ofNat 1), .int .i64 (.ofNat 1), .str [], .nilp, .nilp] 363 none)])]
theorem entsLparse1_ok : (entsLparse1.all (entB (runS SWd) glT 129)) = true := by kernel_rfl
def entsLparse2 : List Ent := [
  ([.str [32, 74, 82, 32, 120]], .tuple [.agg [.str [], .str [74, 82], .slice 166 0 0 1 none, .nils], .int .i64 (.ofNat 0)], 1296, [(166, .cells [.int .i64 (.ofNat 4), .str [], .ptr 135 0] 459 (some 3)), (135, .cells [.int .i64 (.ofNat 2), .int .i64 (.ofNat 0), .str [120], .nilp, .nilp] 363 none)])]
theorem entsLparse2_ok : (entsLparse2.all (entB (runS SWd) glT 129)) = true := by kernel_rfl
def entsLparse : List Ent := entsLparse0 ++ entsLparse1 ++ entsLparse2
theorem entsLparse_ok : (entsLparse.all (entB (runS SWd) glT 129)) = true := by
  unfold entsLparse
  simp only [List.all_append, entsLparse0_ok, entsLparse1_ok, entsLparse2_ok, Bool.and_self]
theorem memoLparse_ok : CallOk Tryz.prog (memoS glT 129 (memoT glT entsLparse)) := memoT_ok (runS_ok hMix SWd_ok) glT _ _ entsLparse_ok
def SLp : CallF := orS (memoS glT 129 (memoT glT entsLparse)) SWd
theorem SLp_ok : CallOk Tryz.prog SLp := orS_ok memoLparse_ok SWd_ok
end Go.Proofs.YtpjcgimgiegehaaGreatDoor.Ex
