/- What table.At answers: page 3. -/
import Derived.Test.YtpjcgimgiegehaaGreatDoorMK4
import Derived.Test.YtpjcgimgiegehaaGreatDoorMK7
namespace Go.Proofs.YtpjcgimgiegehaaGreatDoor.Ex
open Go.RowKit

def nxat3_0 : List (Nat × Nat) := [(19, 0), (52, 0), (63, 0), (45, 0), (45, 0), (45, 0), (52, 0), (19, 0), (60, 0), (64, 60), (63, 0), (45, 0), (47, 0), (47, 0), (54, 0), (19, 0)]
theorem at3_0_ok : chkL (runS SLook) 4 3 0 od3_0 nxat3_0 = true := by kernel_rfl
def nxat3_1 : List (Nat × Nat) := [(29, 0), (52, 0), (63, 0), (45, 0), (45, 0), (45, 0), (52, 0), (19, 0), (29, 0), (64, 60), (63, 0), (45, 0), (45, 0), (45, 0), (52, 0), (19, 0)]
theorem at3_1_ok : chkL (runS SLook) 4 3 16 od3_1 nxat3_1 = true := by kernel_rfl
def nxat3_2 : List (Nat × Nat) := [(36, 0), (52, 48), (46, 42), (45, 42), (45, 42), (45, 42), (52, 48), (19, 0), (36, 0), (64, 60), (46, 42), (45, 42), (45, 42), (45, 42), (52, 48), (19, 0)]
theorem at3_2_ok : chkL (runS SLook) 4 3 32 od3_2 nxat3_2 = true := by kernel_rfl
def nxat3_3 : List (Nat × Nat) := [(36, 0), (52, 0), (48, 0), (45, 0), (45, 43), (45, 43), (51, 49), (19, 0), (36, 0), (64, 60), (48, 0), (45, 0), (45, 0), (45, 0), (52, 0), (19, 0)]
theorem at3_3_ok : chkL (runS SLook) 4 3 48 od3_3 nxat3_3 = true := by kernel_rfl
def nxat3_4 : List (Nat × Nat) := [(68, 0), (70, 0), (68, 0), (68, 0), (68, 64), (68, 64), (67, 65), (68, 0), (70, 0), (72, 0), (70, 0), (70, 0), (70, 66), (70, 66), (69, 67), (70, 0)]
theorem at3_4_ok : chkL (runS SLook) 4 3 64 od3_4 nxat3_4 = true := by kernel_rfl
def nxat3_5 : List (Nat × Nat) := [(68, 0), (70, 0), (68, 0), (68, 0), (68, 64), (68, 64), (67, 65), (68, 0), (68, 0), (70, 0), (68, 0), (68, 0), (68, 64), (68, 64), (67, 65), (68, 0)]
theorem at3_5_ok : chkL (runS SLook) 4 3 80 od3_5 nxat3_5 = true := by kernel_rfl
def nxat3_6 : List (Nat × Nat) := [(68, 64), (70, 66), (68, 64), (68, 64), (68, 64), (68, 64), (67, 65), (68, 64), (68, 64), (70, 66), (68, 64), (68, 64), (68, 64), (68, 64), (67, 65), (68, 64)]
theorem at3_6_ok : chkL (runS SLook) 4 3 96 od3_6 nxat3_6 = true := by kernel_rfl
def nxat3_7 : List (Nat × Nat) := [(67, 65), (69, 67), (67, 65), (67, 65), (67, 65), (67, 65), (19, 0), (67, 65), (68, 0), (70, 0), (68, 0), (68, 0), (68, 64), (68, 64), (67, 65), (68, 0)]
theorem at3_7_ok : chkL (runS SLook) 4 3 112 od3_7 nxat3_7 = true := by kernel_rfl
def nxat3_8 : List (Nat × Nat) := [(66, 0), (68, 0), (66, 0), (66, 0), (66, 62), (66, 62), (65, 63), (66, 0), (66, 0), (68, 0), (66, 0), (66, 0), (66, 62), (66, 62), (65, 63), (66, 0)]
theorem at3_8_ok : chkL (runS SLook) 4 3 128 od3_8 nxat3_8 = true := by kernel_rfl
def nxat3_9 : List (Nat × Nat) := [(45, 0), (47, 0), (45, 0), (45, 0), (45, 42), (45, 42), (45, 43), (45, 0), (66, 0), (68, 0), (66, 0), (66, 0), (66, 62), (66, 62), (65, 63), (66, 0)]
theorem at3_9_ok : chkL (runS SLook) 4 3 144 od3_9 nxat3_9 = true := by kernel_rfl
def nxat3_10 : List (Nat × Nat) := [(45, 0), (47, 0), (45, 0), (45, 0), (45, 42), (45, 42), (45, 43), (45, 0), (45, 0), (47, 0), (45, 0), (45, 0), (45, 42), (45, 42), (45, 43), (45, 0)]
theorem at3_10_ok : chkL (runS SLook) 4 3 160 od3_10 nxat3_10 = true := by kernel_rfl
def nxat3_11 : List (Nat × Nat) := [(45, 0), (47, 0), (45, 0), (45, 0), (45, 42), (45, 42), (45, 43), (45, 0), (45, 0), (47, 0), (45, 0), (45, 0), (45, 42), (45, 42), (45, 43), (45, 0)]
theorem at3_11_ok : chkL (runS SLook) 4 3 176 od3_11 nxat3_11 = true := by kernel_rfl
def nxat3_12 : List (Nat × Nat) := [(29, 0), (45, 0), (36, 0), (29, 0), (36, 0), (45, 0), (50, 0), (29, 0), (29, 0), (19, 0), (36, 0), (2, 0), (36, 0), (29, 0), (50, 0), (29, 0)]
theorem at3_12_ok : chkL (runS SLook) 4 3 192 od3_12 nxat3_12 = true := by kernel_rfl
def nxat3_13 : List (Nat × Nat) := [(29, 0), (45, 0), (36, 0), (48, 0), (36, 0), (45, 0), (29, 0), (29, 0), (29, 0), (19, 0), (36, 0), (48, 0), (36, 0), (9, 0), (50, 0), (29, 0)]
theorem at3_13_ok : chkL (runS SLook) 4 3 208 od3_13 nxat3_13 = true := by kernel_rfl
def nxat3_14 : List (Nat × Nat) := [(29, 0), (45, 42), (36, 0), (61, 57), (36, 0), (45, 42), (29, 0), (29, 0), (29, 0), (42, 39), (36, 0), (60, 0), (36, 0), (9, 0), (29, 0), (29, 0)]
theorem at3_14_ok : chkL (runS SLook) 4 3 224 od3_14 nxat3_14 = true := by kernel_rfl
def nxat3_15 : List (Nat × Nat) := [(29, 0), (45, 0), (36, 0), (19, 0), (36, 0), (45, 0), (29, 0), (29, 0), (29, 0), (60, 56), (36, 0), (19, 0), (36, 0), (9, 0), (29, 0), (29, 0)]
theorem at3_15_ok : chkL (runS SLook) 4 3 240 od3_15 nxat3_15 = true := by kernel_rfl
def nxat3 : List (List (Nat × Nat)) := [nxat3_0, nxat3_1, nxat3_2, nxat3_3, nxat3_4, nxat3_5, nxat3_6, nxat3_7, nxat3_8, nxat3_9, nxat3_10, nxat3_11, nxat3_12, nxat3_13, nxat3_14, nxat3_15]
theorem at3_ok : ChkP (runS SLook) 4 3 0 od3 nxat3 := And.intro at3_0_ok (And.intro at3_1_ok (And.intro at3_2_ok (And.intro at3_3_ok (And.intro at3_4_ok (And.intro at3_5_ok (And.intro at3_6_ok (And.intro at3_7_ok (And.intro at3_8_ok (And.intro at3_9_ok (And.intro at3_10_ok (And.intro at3_11_ok (And.intro at3_12_ok (And.intro at3_13_ok (And.intro at3_14_ok (And.intro at3_15_ok (trivial))))))))))))))))
end Go.Proofs.YtpjcgimgiegehaaGreatDoor.Ex
