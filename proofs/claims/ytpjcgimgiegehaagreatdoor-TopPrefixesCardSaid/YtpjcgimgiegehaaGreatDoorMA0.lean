/- What table.At answers: page 0. -/
import Derived.Test.YtpjcgimgiegehaaGreatDoorMK4
import Derived.Test.YtpjcgimgiegehaaGreatDoorMK7
namespace Go.Proofs.YtpjcgimgiegehaaGreatDoor.Ex
open Go.RowKit

def nxat0_0 : List (Nat × Nat) := [(14, 0), (43, 42), (54, 53), (37, 36), (37, 36), (37, 36), (43, 42), (14, 0), (51, 50), (55, 54), (54, 53), (37, 36), (39, 38), (39, 38), (45, 44), (14, 0)]
theorem at0_0_ok : chkL (runS SLook) 4 0 0 od0_0 nxat0_0 = true := by kernel_rfl
def nxat0_1 : List (Nat × Nat) := [(21, 20), (43, 42), (54, 53), (37, 36), (37, 36), (37, 36), (43, 42), (14, 0), (21, 20), (55, 54), (54, 53), (37, 36), (37, 36), (37, 36), (43, 42), (14, 0)]
theorem at0_1_ok : chkL (runS SLook) 4 0 16 od0_1 nxat0_1 = true := by kernel_rfl
def nxat0_2 : List (Nat × Nat) := [(27, 26), (43, 42), (37, 36), (37, 36), (37, 36), (37, 36), (43, 42), (14, 0), (27, 26), (55, 54), (37, 36), (37, 36), (37, 36), (37, 36), (43, 42), (14, 0)]
theorem at0_2_ok : chkL (runS SLook) 4 0 32 od0_2 nxat0_2 = true := by kernel_rfl
def nxat0_3 : List (Nat × Nat) := [(27, 26), (43, 42), (39, 38), (37, 36), (38, 37), (38, 37), (44, 43), (14, 0), (27, 26), (55, 54), (39, 38), (37, 36), (37, 36), (37, 36), (43, 42), (14, 0)]
theorem at0_3_ok : chkL (runS SLook) 4 0 48 od0_3 nxat0_3 = true := by kernel_rfl
def nxat0_4 : List (Nat × Nat) := [(59, 58), (61, 60), (59, 58), (59, 58), (59, 58), (59, 58), (60, 59), (59, 58), (61, 60), (63, 62), (61, 60), (61, 60), (61, 60), (61, 60), (62, 61), (61, 60)]
theorem at0_4_ok : chkL (runS SLook) 4 0 64 od0_4 nxat0_4 = true := by kernel_rfl
def nxat0_5 : List (Nat × Nat) := [(59, 58), (61, 60), (59, 58), (59, 58), (59, 58), (59, 58), (60, 59), (59, 58), (59, 58), (61, 60), (59, 58), (59, 58), (59, 58), (59, 58), (60, 59), (59, 58)]
theorem at0_5_ok : chkL (runS SLook) 4 0 80 od0_5 nxat0_5 = true := by kernel_rfl
def nxat0_6 : List (Nat × Nat) := [(59, 58), (61, 60), (59, 58), (59, 58), (59, 58), (59, 58), (60, 59), (59, 58), (59, 58), (61, 60), (59, 58), (59, 58), (59, 58), (59, 58), (60, 59), (59, 58)]
theorem at0_6_ok : chkL (runS SLook) 4 0 96 od0_6 nxat0_6 = true := by kernel_rfl
def nxat0_7 : List (Nat × Nat) := [(60, 59), (62, 61), (60, 59), (60, 59), (60, 59), (60, 59), (14, 0), (60, 59), (59, 58), (61, 60), (59, 58), (59, 58), (59, 58), (59, 58), (60, 59), (59, 58)]
theorem at0_7_ok : chkL (runS SLook) 4 0 112 od0_7 nxat0_7 = true := by kernel_rfl
def nxat0_8 : List (Nat × Nat) := [(57, 56), (59, 58), (57, 56), (57, 56), (57, 56), (57, 56), (58, 57), (57, 56), (57, 56), (59, 58), (57, 56), (57, 56), (57, 56), (57, 56), (58, 57), (57, 56)]
theorem at0_8_ok : chkL (runS SLook) 4 0 128 od0_8 nxat0_8 = true := by kernel_rfl
def nxat0_9 : List (Nat × Nat) := [(37, 36), (39, 38), (37, 36), (37, 36), (37, 36), (37, 36), (38, 37), (37, 36), (57, 56), (59, 58), (57, 56), (57, 56), (57, 56), (57, 56), (58, 57), (57, 56)]
theorem at0_9_ok : chkL (runS SLook) 4 0 144 od0_9 nxat0_9 = true := by kernel_rfl
def nxat0_10 : List (Nat × Nat) := [(37, 36), (39, 38), (37, 36), (37, 36), (37, 36), (37, 36), (38, 37), (37, 36), (37, 36), (39, 38), (37, 36), (37, 36), (37, 36), (37, 36), (38, 37), (37, 36)]
theorem at0_10_ok : chkL (runS SLook) 4 0 160 od0_10 nxat0_10 = true := by kernel_rfl
def nxat0_11 : List (Nat × Nat) := [(37, 36), (39, 38), (37, 36), (37, 36), (37, 36), (37, 36), (38, 37), (37, 36), (37, 36), (39, 38), (37, 36), (37, 36), (37, 36), (37, 36), (38, 37), (37, 36)]
theorem at0_11_ok : chkL (runS SLook) 4 0 176 od0_11 nxat0_11 = true := by kernel_rfl
def nxat0_12 : List (Nat × Nat) := [(21, 20), (37, 36), (27, 26), (21, 20), (27, 26), (37, 36), (41, 40), (21, 20), (21, 20), (14, 0), (27, 26), (9, 0), (27, 26), (21, 20), (41, 40), (21, 20)]
theorem at0_12_ok : chkL (runS SLook) 4 0 192 od0_12 nxat0_12 = true := by kernel_rfl
def nxat0_13 : List (Nat × Nat) := [(21, 20), (37, 36), (27, 26), (39, 38), (27, 26), (37, 36), (21, 20), (21, 20), (21, 20), (14, 0), (27, 26), (39, 38), (27, 26), (9, 0), (41, 40), (21, 20)]
theorem at0_13_ok : chkL (runS SLook) 4 0 208 od0_13 nxat0_13 = true := by kernel_rfl
def nxat0_14 : List (Nat × Nat) := [(21, 20), (37, 36), (27, 26), (52, 51), (27, 26), (37, 36), (21, 20), (21, 20), (21, 20), (34, 33), (27, 26), (51, 50), (27, 26), (9, 0), (21, 20), (21, 20)]
theorem at0_14_ok : chkL (runS SLook) 4 0 224 od0_14 nxat0_14 = true := by kernel_rfl
def nxat0_15 : List (Nat × Nat) := [(21, 20), (37, 36), (27, 26), (14, 0), (27, 26), (37, 36), (21, 20), (21, 20), (21, 20), (51, 50), (27, 26), (14, 0), (27, 26), (9, 0), (21, 20), (21, 20)]
theorem at0_15_ok : chkL (runS SLook) 4 0 240 od0_15 nxat0_15 = true := by kernel_rfl
def nxat0 : List (List (Nat × Nat)) := [nxat0_0, nxat0_1, nxat0_2, nxat0_3, nxat0_4, nxat0_5, nxat0_6, nxat0_7, nxat0_8, nxat0_9, nxat0_10, nxat0_11, nxat0_12, nxat0_13, nxat0_14, nxat0_15]
theorem at0_ok : ChkP (runS SLook) 4 0 0 od0 nxat0 := And.intro at0_0_ok (And.intro at0_1_ok (And.intro at0_2_ok (And.intro at0_3_ok (And.intro at0_4_ok (And.intro at0_5_ok (And.intro at0_6_ok (And.intro at0_7_ok (And.intro at0_8_ok (And.intro at0_9_ok (And.intro at0_10_ok (And.intro at0_11_ok (And.intro at0_12_ok (And.intro at0_13_ok (And.intro at0_14_ok (And.intro at0_15_ok (trivial))))))))))))))))
end Go.Proofs.YtpjcgimgiegehaaGreatDoor.Ex
