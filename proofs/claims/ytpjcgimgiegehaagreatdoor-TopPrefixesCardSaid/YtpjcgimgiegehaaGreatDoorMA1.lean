/- What table.At answers: page 1. -/
import Derived.Test.YtpjcgimgiegehaaGreatDoorMK4
import Derived.Test.YtpjcgimgiegehaaGreatDoorMK7
namespace Go.Proofs.YtpjcgimgiegehaaGreatDoor.Ex
open Go.RowKit

def nxat1_0 : List (Nat × Nat) := [(37, 36), (39, 38), (37, 36), (37, 36), (37, 36), (37, 36), (38, 37), (37, 36), (37, 36), (39, 38), (37, 36), (37, 36), (37, 36), (37, 36), (38, 37), (37, 36)]
theorem at1_0_ok : chkL (runS SLook) 4 1 0 od1_0 nxat1_0 = true := by kernel_rfl
def nxat1_1 : List (Nat × Nat) := [(37, 36), (39, 38), (37, 36), (37, 36), (37, 36), (37, 36), (38, 37), (37, 36), (37, 36), (39, 38), (37, 36), (37, 36), (37, 36), (37, 36), (38, 37), (37, 36)]
theorem at1_1_ok : chkL (runS SLook) 4 1 16 od1_1 nxat1_1 = true := by kernel_rfl
def nxat1_2 : List (Nat × Nat) := [(37, 36), (39, 38), (37, 36), (37, 36), (37, 36), (37, 36), (38, 37), (37, 36), (37, 36), (39, 38), (37, 36), (37, 36), (37, 36), (37, 36), (38, 37), (37, 36)]
theorem at1_2_ok : chkL (runS SLook) 4 1 32 od1_2 nxat1_2 = true := by kernel_rfl
def nxat1_3 : List (Nat × Nat) := [(37, 36), (39, 38), (37, 36), (37, 36), (37, 36), (37, 36), (38, 37), (37, 36), (37, 36), (39, 38), (37, 36), (37, 36), (37, 36), (37, 36), (38, 37), (37, 36)]
theorem at1_3_ok : chkL (runS SLook) 4 1 48 od1_3 nxat1_3 = true := by kernel_rfl
def nxat1_4 : List (Nat × Nat) := [(43, 42), (45, 44), (43, 42), (43, 42), (43, 42), (43, 42), (44, 43), (43, 42), (43, 42), (45, 44), (43, 42), (43, 42), (43, 42), (43, 42), (44, 43), (43, 42)]
theorem at1_4_ok : chkL (runS SLook) 4 1 64 od1_4 nxat1_4 = true := by kernel_rfl
def nxat1_5 : List (Nat × Nat) := [(43, 42), (45, 44), (43, 42), (43, 42), (43, 42), (43, 42), (44, 43), (43, 42), (43, 42), (45, 44), (43, 42), (43, 42), (43, 42), (43, 42), (44, 43), (43, 42)]
theorem at1_5_ok : chkL (runS SLook) 4 1 80 od1_5 nxat1_5 = true := by kernel_rfl
def nxat1_6 : List (Nat × Nat) := [(43, 42), (45, 44), (43, 42), (43, 42), (43, 42), (43, 42), (44, 43), (43, 42), (43, 42), (45, 44), (43, 42), (43, 42), (43, 42), (43, 42), (44, 43), (43, 42)]
theorem at1_6_ok : chkL (runS SLook) 4 1 96 od1_6 nxat1_6 = true := by kernel_rfl
def nxat1_7 : List (Nat × Nat) := [(43, 42), (45, 44), (43, 42), (43, 42), (43, 42), (43, 42), (44, 43), (43, 42), (43, 42), (45, 44), (43, 42), (43, 42), (43, 42), (43, 42), (44, 43), (43, 42)]
theorem at1_7_ok : chkL (runS SLook) 4 1 112 od1_7 nxat1_7 = true := by kernel_rfl
def nxat1_8 : List (Nat × Nat) := [(43, 42), (45, 44), (43, 42), (43, 42), (43, 42), (43, 42), (44, 43), (43, 42), (43, 42), (45, 44), (43, 42), (43, 42), (43, 42), (43, 42), (44, 43), (43, 42)]
theorem at1_8_ok : chkL (runS SLook) 4 1 128 od1_8 nxat1_8 = true := by kernel_rfl
def nxat1_9 : List (Nat × Nat) := [(43, 42), (45, 44), (43, 42), (43, 42), (43, 42), (43, 42), (44, 43), (43, 42), (43, 42), (45, 44), (43, 42), (43, 42), (43, 42), (43, 42), (44, 43), (43, 42)]
theorem at1_9_ok : chkL (runS SLook) 4 1 144 od1_9 nxat1_9 = true := by kernel_rfl
def nxat1_10 : List (Nat × Nat) := [(43, 42), (45, 44), (43, 42), (43, 42), (43, 42), (43, 42), (44, 43), (43, 42), (43, 42), (45, 44), (43, 42), (43, 42), (43, 42), (43, 42), (44, 43), (43, 42)]
theorem at1_10_ok : chkL (runS SLook) 4 1 160 od1_10 nxat1_10 = true := by kernel_rfl
def nxat1_11 : List (Nat × Nat) := [(43, 42), (45, 44), (43, 42), (43, 42), (43, 42), (43, 42), (44, 43), (43, 42), (43, 42), (45, 44), (43, 42), (43, 42), (43, 42), (43, 42), (44, 43), (43, 42)]
theorem at1_11_ok : chkL (runS SLook) 4 1 176 od1_11 nxat1_11 = true := by kernel_rfl
def nxat1_12 : List (Nat × Nat) := [(43, 42), (45, 44), (43, 42), (43, 42), (43, 42), (43, 42), (44, 43), (43, 42), (43, 42), (45, 44), (43, 42), (43, 42), (43, 42), (43, 42), (44, 43), (43, 42)]
theorem at1_12_ok : chkL (runS SLook) 4 1 192 od1_12 nxat1_12 = true := by kernel_rfl
def nxat1_13 : List (Nat × Nat) := [(43, 42), (45, 44), (43, 42), (43, 42), (43, 42), (43, 42), (44, 43), (43, 42), (43, 42), (45, 44), (43, 42), (43, 42), (43, 42), (43, 42), (44, 43), (43, 42)]
theorem at1_13_ok : chkL (runS SLook) 4 1 208 od1_13 nxat1_13 = true := by kernel_rfl
def nxat1_14 : List (Nat × Nat) := [(43, 42), (45, 44), (43, 42), (43, 42), (43, 42), (43, 42), (44, 43), (43, 42), (43, 42), (45, 44), (43, 42), (43, 42), (43, 42), (43, 42), (44, 43), (43, 42)]
theorem at1_14_ok : chkL (runS SLook) 4 1 224 od1_14 nxat1_14 = true := by kernel_rfl
def nxat1_15 : List (Nat × Nat) := [(43, 42), (45, 44), (43, 42), (43, 42), (43, 42), (43, 42), (44, 43), (43, 42), (43, 42), (45, 44), (43, 42), (43, 42), (43, 42), (43, 42), (44, 43), (43, 42)]
theorem at1_15_ok : chkL (runS SLook) 4 1 240 od1_15 nxat1_15 = true := by kernel_rfl
def nxat1 : List (List (Nat × Nat)) := [nxat1_0, nxat1_1, nxat1_2, nxat1_3, nxat1_4, nxat1_5, nxat1_6, nxat1_7, nxat1_8, nxat1_9, nxat1_10, nxat1_11, nxat1_12, nxat1_13, nxat1_14, nxat1_15]
theorem at1_ok : ChkP (runS SLook) 4 1 0 od1 nxat1 := And.intro at1_0_ok (And.intro at1_1_ok (And.intro at1_2_ok (And.intro at1_3_ok (And.intro at1_4_ok (And.intro at1_5_ok (And.intro at1_6_ok (And.intro at1_7_ok (And.intro at1_8_ok (And.intro at1_9_ok (And.intro at1_10_ok (And.intro at1_11_ok (And.intro at1_12_ok (And.intro at1_13_ok (And.intro at1_14_ok (And.intro at1_15_ok (trivial))))))))))))))))
end Go.Proofs.YtpjcgimgiegehaaGreatDoor.Ex
