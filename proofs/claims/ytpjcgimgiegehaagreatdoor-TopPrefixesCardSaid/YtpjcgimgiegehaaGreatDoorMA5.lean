/- What table.At answers: page 5. -/
import Derived.Test.YtpjcgimgiegehaaGreatDoorMK4
import Derived.Test.YtpjcgimgiegehaaGreatDoorMK7
namespace Go.Proofs.YtpjcgimgiegehaaGreatDoor.Ex
open Go.RowKit

def nxat5_0 : List (Nat × Nat) := [(42, 41), (42, 41), (42, 41), (42, 41), (42, 41), (42, 41), (40, 38), (42, 41), (42, 41), (42, 41), (42, 41), (42, 41), (42, 41), (42, 41), (40, 38), (42, 41)]
theorem at5_0_ok : chkL (runS SLook) 4 5 0 od5_0 nxat5_0 = true := by kernel_rfl
def nxat5_1 : List (Nat × Nat) := [(42, 41), (42, 41), (42, 41), (42, 41), (42, 41), (42, 41), (40, 38), (42, 41), (42, 41), (42, 41), (42, 41), (42, 41), (42, 41), (42, 41), (40, 38), (42, 41)]
theorem at5_1_ok : chkL (runS SLook) 4 5 16 od5_1 nxat5_1 = true := by kernel_rfl
def nxat5_2 : List (Nat × Nat) := [(42, 41), (42, 41), (42, 41), (42, 41), (42, 41), (42, 41), (40, 38), (42, 41), (42, 41), (42, 41), (42, 41), (42, 41), (42, 41), (42, 41), (40, 38), (42, 41)]
theorem at5_2_ok : chkL (runS SLook) 4 5 32 od5_2 nxat5_2 = true := by kernel_rfl
def nxat5_3 : List (Nat × Nat) := [(42, 41), (42, 41), (42, 41), (42, 41), (42, 41), (42, 41), (40, 38), (42, 41), (42, 41), (42, 41), (42, 41), (42, 41), (42, 41), (42, 41), (40, 38), (42, 41)]
theorem at5_3_ok : chkL (runS SLook) 4 5 48 od5_3 nxat5_3 = true := by kernel_rfl
def nxat5_4 : List (Nat × Nat) := [(46, 44), (46, 44), (46, 44), (46, 44), (46, 44), (46, 44), (46, 44), (46, 44), (46, 44), (46, 44), (46, 44), (46, 44), (46, 44), (46, 44), (46, 44), (46, 44)]
theorem at5_4_ok : chkL (runS SLook) 4 5 64 od5_4 nxat5_4 = true := by kernel_rfl
def nxat5_5 : List (Nat × Nat) := [(46, 44), (46, 44), (46, 44), (46, 44), (46, 44), (46, 44), (46, 44), (46, 44), (46, 44), (46, 44), (46, 44), (46, 44), (46, 44), (46, 44), (46, 44), (46, 44)]
theorem at5_5_ok : chkL (runS SLook) 4 5 80 od5_5 nxat5_5 = true := by kernel_rfl
def nxat5_6 : List (Nat × Nat) := [(46, 44), (46, 44), (46, 44), (46, 44), (46, 44), (46, 44), (46, 44), (46, 44), (46, 44), (46, 44), (46, 44), (46, 44), (46, 44), (46, 44), (46, 44), (46, 44)]
theorem at5_6_ok : chkL (runS SLook) 4 5 96 od5_6 nxat5_6 = true := by kernel_rfl
def nxat5_7 : List (Nat × Nat) := [(46, 44), (46, 44), (46, 44), (46, 44), (46, 44), (46, 44), (46, 44), (46, 44), (46, 44), (46, 44), (46, 44), (46, 44), (46, 44), (46, 44), (46, 44), (46, 44)]
theorem at5_7_ok : chkL (runS SLook) 4 5 112 od5_7 nxat5_7 = true := by kernel_rfl
def nxat5_8 : List (Nat × Nat) := [(48, 47), (48, 47), (48, 47), (48, 47), (48, 47), (48, 47), (46, 44), (48, 47), (48, 47), (48, 47), (48, 47), (48, 47), (48, 47), (48, 47), (46, 44), (48, 47)]
theorem at5_8_ok : chkL (runS SLook) 4 5 128 od5_8 nxat5_8 = true := by kernel_rfl
def nxat5_9 : List (Nat × Nat) := [(48, 47), (48, 47), (48, 47), (48, 47), (48, 47), (48, 47), (46, 44), (48, 47), (48, 47), (48, 47), (48, 47), (48, 47), (48, 47), (48, 47), (46, 44), (48, 47)]
theorem at5_9_ok : chkL (runS SLook) 4 5 144 od5_9 nxat5_9 = true := by kernel_rfl
def nxat5_10 : List (Nat × Nat) := [(48, 47), (48, 47), (48, 47), (48, 47), (48, 47), (48, 47), (46, 44), (48, 47), (48, 47), (48, 47), (48, 47), (48, 47), (48, 47), (48, 47), (46, 44), (48, 47)]
theorem at5_10_ok : chkL (runS SLook) 4 5 160 od5_10 nxat5_10 = true := by kernel_rfl
def nxat5_11 : List (Nat × Nat) := [(48, 47), (48, 47), (48, 47), (48, 47), (48, 47), (48, 47), (46, 44), (48, 47), (48, 47), (48, 47), (48, 47), (48, 47), (48, 47), (48, 47), (46, 44), (48, 47)]
theorem at5_11_ok : chkL (runS SLook) 4 5 176 od5_11 nxat5_11 = true := by kernel_rfl
def nxat5_12 : List (Nat × Nat) := [(48, 47), (48, 47), (48, 47), (48, 47), (48, 47), (48, 47), (46, 44), (48, 47), (48, 47), (48, 47), (48, 47), (48, 47), (48, 47), (48, 47), (46, 44), (48, 47)]
theorem at5_12_ok : chkL (runS SLook) 4 5 192 od5_12 nxat5_12 = true := by kernel_rfl
def nxat5_13 : List (Nat × Nat) := [(48, 47), (48, 47), (48, 47), (48, 47), (48, 47), (48, 47), (46, 44), (48, 47), (48, 47), (48, 47), (48, 47), (48, 47), (48, 47), (48, 47), (46, 44), (48, 47)]
theorem at5_13_ok : chkL (runS SLook) 4 5 208 od5_13 nxat5_13 = true := by kernel_rfl
def nxat5_14 : List (Nat × Nat) := [(48, 47), (48, 47), (48, 47), (48, 47), (48, 47), (48, 47), (46, 44), (48, 47), (48, 47), (48, 47), (48, 47), (48, 47), (48, 47), (48, 47), (46, 44), (48, 47)]
theorem at5_14_ok : chkL (runS SLook) 4 5 224 od5_14 nxat5_14 = true := by kernel_rfl
def nxat5_15 : List (Nat × Nat) := [(48, 47), (48, 47), (48, 47), (48, 47), (48, 47), (48, 47), (46, 44), (48, 47), (48, 47), (48, 47), (48, 47), (48, 47), (48, 47), (48, 47), (46, 44), (48, 47)]
theorem at5_15_ok : chkL (runS SLook) 4 5 240 od5_15 nxat5_15 = true := by kernel_rfl
def nxat5 : List (List (Nat × Nat)) := [nxat5_0, nxat5_1, nxat5_2, nxat5_3, nxat5_4, nxat5_5, nxat5_6, nxat5_7, nxat5_8, nxat5_9, nxat5_10, nxat5_11, nxat5_12, nxat5_13, nxat5_14, nxat5_15]
theorem at5_ok : ChkP (runS SLook) 4 5 0 od5 nxat5 := And.intro at5_0_ok (And.intro at5_1_ok (And.intro at5_2_ok (And.intro at5_3_ok (And.intro at5_4_ok (And.intro at5_5_ok (And.intro at5_6_ok (And.intro at5_7_ok (And.intro at5_8_ok (And.intro at5_9_ok (And.intro at5_10_ok (And.intro at5_11_ok (And.intro at5_12_ok (And.intro at5_13_ok (And.intro at5_14_ok (And.intro at5_15_ok (trivial))))))))))))))))
end Go.Proofs.YtpjcgimgiegehaaGreatDoor.Ex
