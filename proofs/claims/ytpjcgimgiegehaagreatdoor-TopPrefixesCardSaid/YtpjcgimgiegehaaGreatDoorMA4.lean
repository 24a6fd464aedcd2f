/- What table.At answers: page 4. -/
import Derived.Test.YtpjcgimgiegehaaGreatDoorMK4
import Derived.Test.YtpjcgimgiegehaaGreatDoorMK7
namespace Go.Proofs.YtpjcgimgiegehaaGreatDoor.Ex
open Go.RowKit

def nxat4_0 : List (Nat × Nat) := [(19, 0), (52, 0), (63, 0), (45, 0), (45, 0), (45, 0), (52, 0), (19, 0), (60, 0), (64, 60), (63, 0), (45, 0), (47, 0), (47, 0), (54, 0), (19, 0)]
theorem at4_0_ok : chkL (runS SLook) 4 4 0 od4_0 nxat4_0 = true := by kernel_rfl
def nxat4_1 : List (Nat × Nat) := [(29, 0), (52, 0), (63, 0), (45, 0), (45, 0), (45, 0), (52, 0), (19, 0), (29, 0), (64, 60), (63, 0), (45, 0), (45, 0), (45, 0), (52, 0), (19, 0)]
theorem at4_1_ok : chkL (runS SLook) 4 4 16 od4_1 nxat4_1 = true := by kernel_rfl
def nxat4_2 : List (Nat × Nat) := [(36, 0), (52, 48), (46, 42), (45, 42), (45, 42), (45, 42), (52, 48), (19, 0), (36, 0), (64, 60), (46, 42), (45, 42), (45, 42), (45, 42), (52, 48), (19, 0)]
theorem at4_2_ok : chkL (runS SLook) 4 4 32 od4_2 nxat4_2 = true := by kernel_rfl
def nxat4_3 : List (Nat × Nat) := [(36, 0), (52, 0), (48, 0), (45, 0), (45, 43), (45, 43), (51, 49), (19, 0), (36, 0), (64, 60), (48, 0), (45, 0), (45, 0), (45, 0), (52, 0), (19, 0)]
theorem at4_3_ok : chkL (runS SLook) 4 4 48 od4_3 nxat4_3 = true := by kernel_rfl
def nxat4_4 : List (Nat × Nat) := [(68, 0), (70, 0), (68, 0), (68, 0), (68, 64), (68, 64), (67, 65), (68, 0), (70, 0), (72, 0), (70, 0), (70, 0), (70, 66), (70, 66), (69, 67), (70, 0)]
theorem at4_4_ok : chkL (runS SLook) 4 4 64 od4_4 nxat4_4 = true := by kernel_rfl
def nxat4_5 : List (Nat × Nat) := [(68, 0), (70, 0), (68, 0), (68, 0), (68, 64), (68, 64), (67, 65), (68, 0), (68, 0), (70, 0), (68, 0), (68, 0), (68, 64), (68, 64), (67, 65), (68, 0)]
theorem at4_5_ok : chkL (runS SLook) 4 4 80 od4_5 nxat4_5 = true := by kernel_rfl
def nxat4_6 : List (Nat × Nat) := [(68, 64), (70, 66), (68, 64), (68, 64), (68, 64), (68, 64), (67, 65), (68, 64), (68, 64), (70, 66), (68, 64), (68, 64), (68, 64), (68, 64), (67, 65), (68, 64)]
theorem at4_6_ok : chkL (runS SLook) 4 4 96 od4_6 nxat4_6 = true := by kernel_rfl
def nxat4_7 : List (Nat × Nat) := [(67, 65), (69, 67), (67, 65), (67, 65), (67, 65), (67, 65), (19, 0), (67, 65), (68, 0), (70, 0), (68, 0), (68, 0), (68, 64), (68, 64), (67, 65), (68, 0)]
theorem at4_7_ok : chkL (runS SLook) 4 4 112 od4_7 nxat4_7 = true := by kernel_rfl
def nxat4_8 : List (Nat × Nat) := [(66, 0), (68, 0), (66, 0), (66, 0), (66, 62), (66, 62), (65, 63), (66, 0), (66, 0), (68, 0), (66, 0), (66, 0), (66, 62), (66, 62), (65, 63), (66, 0)]
theorem at4_8_ok : chkL (runS SLook) 4 4 128 od4_8 nxat4_8 = true := by kernel_rfl
def nxat4_9 : List (Nat × Nat) := [(45, 0), (47, 0), (45, 0), (45, 0), (45, 42), (45, 42), (45, 43), (45, 0), (66, 0), (68, 0), (66, 0), (66, 0), (66, 62), (66, 62), (65, 63), (66, 0)]
theorem at4_9_ok : chkL (runS SLook) 4 4 144 od4_9 nxat4_9 = true := by kernel_rfl
def nxat4_10 : List (Nat × Nat) := [(45, 0), (47, 0), (45, 0), (45, 0), (45, 42), (45, 42), (45, 43), (45, 0), (45, 0), (47, 0), (45, 0), (45, 0), (45, 42), (45, 42), (45, 43), (45, 0)]
theorem at4_10_ok : chkL (runS SLook) 4 4 160 od4_10 nxat4_10 = true := by kernel_rfl
def nxat4_11 : List (Nat × Nat) := [(45, 0), (47, 0), (45, 0), (45, 0), (45, 42), (45, 42), (45, 43), (45, 0), (45, 0), (47, 0), (45, 0), (45, 0), (45, 42), (45, 42), (45, 43), (45, 0)]
theorem at4_11_ok : chkL (runS SLook) 4 4 176 od4_11 nxat4_11 = true := by kernel_rfl
def nxat4_12 : List (Nat × Nat) := [(29, 0), (45, 0), (36, 0), (29, 0), (36, 0), (45, 0), (50, 0), (29, 0), (29, 0), (19, 0), (36, 0), (2, 0), (36, 0), (29, 0), (50, 0), (29, 0)]
theorem at4_12_ok : chkL (runS SLook) 4 4 192 od4_12 nxat4_12 = true := by kernel_rfl
def nxat4_13 : List (Nat × Nat) := [(29, 0), (45, 0), (36, 0), (48, 0), (36, 0), (45, 0), (29, 0), (29, 0), (29, 0), (19, 0), (36, 0), (48, 0), (36, 0), (9, 0), (50, 0), (29, 0)]
theorem at4_13_ok : chkL (runS SLook) 4 4 208 od4_13 nxat4_13 = true := by kernel_rfl
def nxat4_14 : List (Nat × Nat) := [(29, 0), (45, 42), (36, 0), (61, 57), (36, 0), (45, 42), (29, 0), (29, 0), (29, 0), (42, 39), (36, 0), (60, 0), (36, 0), (9, 0), (29, 0), (29, 0)]
theorem at4_14_ok : chkL (runS SLook) 4 4 224 od4_14 nxat4_14 = true := by kernel_rfl
def nxat4_15 : List (Nat × Nat) := [(29, 0), (45, 0), (36, 0), (19, 0), (36, 0), (45, 0), (29, 0), (29, 0), (29, 0), (60, 56), (36, 0), (19, 0), (36, 0), (9, 0), (29, 0), (29, 0)]
theorem at4_15_ok : chkL (runS SLook) 4 4 240 od4_15 nxat4_15 = true := by kernel_rfl
def nxat4 : List (List (Nat × Nat)) := [nxat4_0, nxat4_1, nxat4_2, nxat4_3, nxat4_4, nxat4_5, nxat4_6, nxat4_7, nxat4_8, nxat4_9, nxat4_10, nxat4_11, nxat4_12, nxat4_13, nxat4_14, nxat4_15]
theorem at4_ok : ChkP (runS SLook) 4 4 0 od4 nxat4 := And.intro at4_0_ok (And.intro at4_1_ok (And.intro at4_2_ok (And.intro at4_3_ok (And.intro at4_4_ok (And.intro at4_5_ok (And.intro at4_6_ok (And.intro at4_7_ok (And.intro at4_8_ok (And.intro at4_9_ok (And.intro at4_10_ok (And.intro at4_11_ok (And.intro at4_12_ok (And.intro at4_13_ok (And.intro at4_14_ok (And.intro at4_15_ok (trivial))))))))))))))))
end Go.Proofs.YtpjcgimgiegehaaGreatDoor.Ex
