/- What table.At answers: page 2. -/
import Derived.Test.YtpjcgimgiegehaaGreatDoorMK4
import Derived.Test.YtpjcgimgiegehaaGreatDoorMK7
namespace Go.Proofs.YtpjcgimgiegehaaGreatDoor.Ex
open Go.RowKit

def nxat2_0 : List (Nat × Nat) := [(9, 0), (9, 0), (9, 0), (9, 0), (9, 0), (9, 0), (9, 0), (9, 0), (9, 0), (9, 0), (9, 0), (9, 0), (9, 0), (9, 0), (9, 0), (9, 0)]
theorem at2_0_ok : chkL (runS SLook) 4 2 0 od2_0 nxat2_0 = true := by kernel_rfl
def nxat2_1 : List (Nat × Nat) := [(9, 0), (9, 0), (9, 0), (9, 0), (9, 0), (9, 0), (9, 0), (9, 0), (9, 0), (9, 0), (9, 0), (9, 0), (9, 0), (9, 0), (9, 0), (9, 0)]
theorem at2_1_ok : chkL (runS SLook) 4 2 16 od2_1 nxat2_1 = true := by kernel_rfl
def nxat2_2 : List (Nat × Nat) := [(9, 0), (9, 0), (9, 0), (9, 0), (9, 0), (9, 0), (9, 0), (9, 0), (9, 0), (9, 0), (9, 0), (9, 0), (9, 0), (9, 0), (9, 0), (9, 0)]
theorem at2_2_ok : chkL (runS SLook) 4 2 32 od2_2 nxat2_2 = true := by kernel_rfl
def nxat2_3 : List (Nat × Nat) := [(9, 0), (9, 0), (9, 0), (9, 0), (9, 0), (9, 0), (9, 0), (9, 0), (9, 0), (9, 0), (9, 0), (9, 0), (9, 0), (9, 0), (9, 0), (9, 0)]
theorem at2_3_ok : chkL (runS SLook) 4 2 48 od2_3 nxat2_3 = true := by kernel_rfl
def nxat2_4 : List (Nat × Nat) := [(58, 57), (58, 57), (55, 54), (41, 40), (14, 0), (14, 0), (20, 19), (55, 54), (60, 59), (60, 59), (55, 54), (41, 40), (14, 0), (14, 0), (20, 19), (55, 54)]
theorem at2_4_ok : chkL (runS SLook) 4 2 64 od2_4 nxat2_4 = true := by kernel_rfl
def nxat2_5 : List (Nat × Nat) := [(58, 57), (58, 57), (55, 54), (41, 40), (14, 0), (14, 0), (20, 19), (55, 54), (58, 57), (58, 57), (55, 54), (41, 40), (14, 0), (14, 0), (20, 19), (55, 54)]
theorem at2_5_ok : chkL (runS SLook) 4 2 80 od2_5 nxat2_5 = true := by kernel_rfl
def nxat2_6 : List (Nat × Nat) := [(58, 57), (58, 57), (55, 54), (37, 36), (14, 0), (14, 0), (20, 19), (14, 0), (58, 57), (58, 57), (55, 54), (37, 36), (14, 0), (14, 0), (20, 19), (14, 0)]
theorem at2_6_ok : chkL (runS SLook) 4 2 96 od2_6 nxat2_6 = true := by kernel_rfl
def nxat2_7 : List (Nat × Nat) := [(36, 35), (41, 40), (55, 54), (41, 40), (14, 0), (14, 0), (20, 19), (9, 0), (58, 57), (58, 57), (55, 54), (41, 40), (14, 0), (14, 0), (20, 19), (9, 0)]
theorem at2_7_ok : chkL (runS SLook) 4 2 112 od2_7 nxat2_7 = true := by kernel_rfl
def nxat2_8 : List (Nat × Nat) := [(9, 0), (9, 0), (9, 0), (9, 0), (9, 0), (9, 0), (9, 0), (9, 0), (9, 0), (9, 0), (9, 0), (9, 0), (9, 0), (9, 0), (9, 0), (9, 0)]
theorem at2_8_ok : chkL (runS SLook) 4 2 128 od2_8 nxat2_8 = true := by kernel_rfl
def nxat2_9 : List (Nat × Nat) := [(9, 0), (9, 0), (9, 0), (9, 0), (9, 0), (9, 0), (9, 0), (9, 0), (9, 0), (9, 0), (9, 0), (9, 0), (9, 0), (9, 0), (9, 0), (9, 0)]
theorem at2_9_ok : chkL (runS SLook) 4 2 144 od2_9 nxat2_9 = true := by kernel_rfl
def nxat2_10 : List (Nat × Nat) := [(14, 0), (14, 0), (14, 0), (14, 0), (9, 0), (9, 0), (9, 0), (9, 0), (14, 0), (14, 0), (14, 0), (14, 0), (9, 0), (9, 0), (9, 0), (9, 0)]
theorem at2_10_ok : chkL (runS SLook) 4 2 160 od2_10 nxat2_10 = true := by kernel_rfl
def nxat2_11 : List (Nat × Nat) := [(14, 0), (14, 0), (14, 0), (14, 0), (9, 0), (9, 0), (9, 0), (9, 0), (14, 0), (14, 0), (14, 0), (14, 0), (9, 0), (9, 0), (9, 0), (9, 0)]
theorem at2_11_ok : chkL (runS SLook) 4 2 176 od2_11 nxat2_11 = true := by kernel_rfl
def nxat2_12 : List (Nat × Nat) := [(9, 0), (9, 0), (9, 0), (9, 0), (9, 0), (9, 0), (9, 0), (9, 0), (9, 0), (9, 0), (9, 0), (9, 0), (9, 0), (9, 0), (9, 0), (9, 0)]
theorem at2_12_ok : chkL (runS SLook) 4 2 192 od2_12 nxat2_12 = true := by kernel_rfl
def nxat2_13 : List (Nat × Nat) := [(9, 0), (9, 0), (9, 0), (9, 0), (9, 0), (9, 0), (9, 0), (9, 0), (9, 0), (9, 0), (9, 0), (9, 0), (9, 0), (9, 0), (9, 0), (9, 0)]
theorem at2_13_ok : chkL (runS SLook) 4 2 208 od2_13 nxat2_13 = true := by kernel_rfl
def nxat2_14 : List (Nat × Nat) := [(9, 0), (9, 0), (9, 0), (9, 0), (9, 0), (9, 0), (9, 0), (9, 0), (9, 0), (9, 0), (9, 0), (9, 0), (9, 0), (9, 0), (9, 0), (9, 0)]
theorem at2_14_ok : chkL (runS SLook) 4 2 224 od2_14 nxat2_14 = true := by kernel_rfl
def nxat2_15 : List (Nat × Nat) := [(9, 0), (9, 0), (9, 0), (9, 0), (9, 0), (9, 0), (9, 0), (9, 0), (9, 0), (9, 0), (9, 0), (9, 0), (9, 0), (9, 0), (9, 0), (9, 0)]
theorem at2_15_ok : chkL (runS SLook) 4 2 240 od2_15 nxat2_15 = true := by kernel_rfl
def nxat2 : List (List (Nat × Nat)) := [nxat2_0, nxat2_1, nxat2_2, nxat2_3, nxat2_4, nxat2_5, nxat2_6, nxat2_7, nxat2_8, nxat2_9, nxat2_10, nxat2_11, nxat2_12, nxat2_13, nxat2_14, nxat2_15]
theorem at2_ok : ChkP (runS SLook) 4 2 0 od2 nxat2 := And.intro at2_0_ok (And.intro at2_1_ok (And.intro at2_2_ok (And.intro at2_3_ok (And.intro at2_4_ok (And.intro at2_5_ok (And.intro at2_6_ok (And.intro at2_7_ok (And.intro at2_8_ok (And.intro at2_9_ok (And.intro at2_10_ok (And.intro at2_11_ok (And.intro at2_12_ok (And.intro at2_13_ok (And.intro at2_14_ok (And.intro at2_15_ok (trivial))))))))))))))))
end Go.Proofs.YtpjcgimgiegehaaGreatDoor.Ex
