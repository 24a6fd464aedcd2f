/- What table.At answers: page 6. -/
import Derived.Test.YtpjcgimgiegehaaGreatDoorMK4
import Derived.Test.YtpjcgimgiegehaaGreatDoorMK7
namespace Go.Proofs.YtpjcgimgiegehaaGreatDoor.Ex
open Go.RowKit

def nxat6_0 : List (Nat × Nat) := [(42, 41), (42, 41), (42, 41), (42, 41), (42, 41), (42, 41), (40, 38), (42, 41), (42, 41), (42, 41), (42, 41), (42, 41), (42, 41), (42, 41), (40, 38), (42, 41)]
theorem at6_0_ok : chkL (runS SLook) 4 6 0 od6_0 nxat6_0 = true := by kernel_rfl
def nxat6_1 : List (Nat × Nat) := [(42, 41), (42, 41), (42, 41), (42, 41), (42, 41), (42, 41), (40, 38), (42, 41), (42, 41), (42, 41), (42, 41), (42, 41), (42, 41), (42, 41), (40, 38), (42, 41)]
theorem at6_1_ok : chkL (runS SLook) 4 6 16 od6_1 nxat6_1 = true := by kernel_rfl
def nxat6_2 : List (Nat × Nat) := [(42, 41), (42, 41), (42, 41), (42, 41), (42, 41), (42, 41), (40, 38), (42, 41), (42, 41), (42, 41), (42, 41), (42, 41), (42, 41), (42, 41), (40, 38), (42, 41)]
theorem at6_2_ok : chkL (runS SLook) 4 6 32 od6_2 nxat6_2 = true := by kernel_rfl
def nxat6_3 : List (Nat × Nat) := [(42, 41), (42, 41), (42, 41), (42, 41), (42, 41), (42, 41), (40, 38), (42, 41), (42, 41), (42, 41), (42, 41), (42, 41), (42, 41), (42, 41), (40, 38), (42, 41)]
theorem at6_3_ok : chkL (runS SLook) 4 6 48 od6_3 nxat6_3 = true := by kernel_rfl
def nxat6_4 : List (Nat × Nat) := [(46, 44), (46, 44), (46, 44), (46, 44), (46, 44), (46, 44), (46, 44), (46, 44), (46, 44), (46, 44), (46, 44), (46, 44), (46, 44), (46, 44), (46, 44), (46, 44)]
theorem at6_4_ok : chkL (runS SLook) 4 6 64 od6_4 nxat6_4 = true := by kernel_rfl
def nxat6_5 : List (Nat × Nat) := [(46, 44), (46, 44), (46, 44), (46, 44), (46, 44), (46, 44), (46, 44), (46, 44), (46, 44), (46, 44), (46, 44), (46, 44), (46, 44), (46, 44), (46, 44), (46, 44)]
theorem at6_5_ok : chkL (runS SLook) 4 6 80 od6_5 nxat6_5 = true := by kernel_rfl
def nxat6_6 : List (Nat × Nat) := [(46, 44), (46, 44), (46, 44), (46, 44), (46, 44), (46, 44), (46, 44), (46, 44), (46, 44), (46, 44), (46, 44), (46, 44), (46, 44), (46, 44), (46, 44), (46, 44)]
theorem at6_6_ok : chkL (runS SLook) 4 6 96 od6_6 nxat6_6 = true := by kernel_rfl
def nxat6_7 : List (Nat × Nat) := [(46, 44), (46, 44), (46, 44), (46, 44), (46, 44), (46, 44), (46, 44), (46, 44), (46, 44), (46, 44), (46, 44), (46, 44), (46, 44), (46, 44), (46, 44), (46, 44)]
theorem at6_7_ok : chkL (runS SLook) 4 6 112 od6_7 nxat6_7 = true := by kernel_rfl
def nxat6_8 : List (Nat × Nat) := [(48, 47), (48, 47), (48, 47), (48, 47), (48, 47), (48, 47), (46, 44), (48, 47), (48, 47), (48, 47), (48, 47), (48, 47), (48, 47), (48, 47), (46, 44), (48, 47)]
theorem at6_8_ok : chkL (runS SLook) 4 6 128 od6_8 nxat6_8 = true := by kernel_rfl
def nxat6_9 : List (Nat × Nat) := [(48, 47), (48, 47), (48, 47), (48, 47), (48, 47), (48, 47), (46, 44), (48, 47), (48, 47), (48, 47), (48, 47), (48, 47), (48, 47), (48, 47), (46, 44), (48, 47)]
theorem at6_9_ok : chkL (runS SLook) 4 6 144 od6_9 nxat6_9 = true := by kernel_rfl
def nxat6_10 : List (Nat × Nat) := [(48, 47), (48, 47), (48, 47), (48, 47), (48, 47), (48, 47), (46, 44), (48, 47), (48, 47), (48, 47), (48, 47), (48, 47), (48, 47), (48, 47), (46, 44), (48, 47)]
theorem at6_10_ok : chkL (runS SLook) 4 6 160 od6_10 nxat6_10 = true := by kernel_rfl
def nxat6_11 : List (Nat × Nat) := [(48, 47), (48, 47), (48, 47), (48, 47), (48, 47), (48, 47), (46, 44), (48, 47), (48, 47), (48, 47), (48, 47), (48, 47), (48, 47), (48, 47), (46, 44), (48, 47)]
theorem at6_11_ok : chkL (runS SLook) 4 6 176 od6_11 nxat6_11 = true := by kernel_rfl
def nxat6_12 : List (Nat × Nat) := [(48, 47), (48, 47), (48, 47), (48, 47), (48, 47), (48, 47), (46, 44), (48, 47), (48, 47), (48, 47), (48, 47), (48, 47), (48, 47), (48, 47), (46, 44), (48, 47)]
theorem at6_12_ok : chkL (runS SLook) 4 6 192 od6_12 nxat6_12 = true := by kernel_rfl
def nxat6_13 : List (Nat × Nat) := [(48, 47), (48, 47), (48, 47), (48, 47), (48, 47), (48, 47), (46, 44), (48, 47), (48, 47), (48, 47), (48, 47), (48, 47), (48, 47), (48, 47), (46, 44), (48, 47)]
theorem at6_13_ok : chkL (runS SLook) 4 6 208 od6_13 nxat6_13 = true := by kernel_rfl
def nxat6_14 : List (Nat × Nat) := [(48, 47), (48, 47), (48, 47), (48, 47), (48, 47), (48, 47), (46, 44), (48, 47), (48, 47), (48, 47), (48, 47), (48, 47), (48, 47), (48, 47), (46, 44), (48, 47)]
theorem at6_14_ok : chkL (runS SLook) 4 6 224 od6_14 nxat6_14 = true := by kernel_rfl
def nxat6_15 : List (Nat × Nat) := [(48, 47), (48, 47), (48, 47), (48, 47), (48, 47), (48, 47), (46, 44), (48, 47), (48, 47), (48, 47), (48, 47), (48, 47), (48, 47), (48, 47), (46, 44), (48, 47)]
theorem at6_15_ok : chkL (runS SLook) 4 6 240 od6_15 nxat6_15 = true := by kernel_rfl
def nxat6 : List (List (Nat × Nat)) := [nxat6_0, nxat6_1, nxat6_2, nxat6_3, nxat6_4, nxat6_5, nxat6_6, nxat6_7, nxat6_8, nxat6_9, nxat6_10, nxat6_11, nxat6_12, nxat6_13, nxat6_14, nxat6_15]
theorem at6_ok : ChkP (runS SLook) 4 6 0 od6 nxat6 := And.intro at6_0_ok (And.intro at6_1_ok (And.intro at6_2_ok (And.intro at6_3_ok (And.intro at6_4_ok (And.intro at6_5_ok (And.intro at6_6_ok (And.intro at6_7_ok (And.intro at6_8_ok (And.intro at6_9_ok (And.intro at6_10_ok (And.intro at6_11_ok (And.intro at6_12_ok (And.intro at6_13_ok (And.intro at6_14_ok (And.intro at6_15_ok (trivial))))))))))))))))
end Go.Proofs.YtpjcgimgiegehaaGreatDoor.Ex
