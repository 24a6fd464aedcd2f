/- What the reference's At answers: page 3. -/
import Derived.Test.YtpjcgimgiegehaaGreatDoorMK4
namespace Go.Proofs.YtpjcgimgiegehaaGreatDoor.Ex
open Go.RowKit

def nxrt3_0 : List (Nat × Nat) := [(14, 0), (25, 0), (29, 0), (21, 0), (21, 0), (21, 0), (26, 0), (15, 0), (26, 0), (31, 16), (29, 0), (21, 0), (21, 0), (21, 0), (26, 0), (15, 0)]
theorem rt3_0_ok : rchkL (runR S1) 7 3 0 od3_0 nxrt3_0 = true := by kernel_rfl
def nxrt3_1 : List (Nat × Nat) := [(21, 0), (25, 0), (29, 0), (21, 0), (21, 0), (21, 0), (26, 0), (15, 0), (21, 0), (31, 16), (29, 0), (21, 0), (21, 0), (21, 0), (26, 0), (15, 0)]
theorem rt3_1_ok : rchkL (runR S1) 7 3 16 od3_1 nxrt3_1 = true := by kernel_rfl
def nxrt3_2 : List (Nat × Nat) := [(26, 0), (32, 17), (36, 21), (28, 16), (28, 16), (28, 16), (33, 18), (15, 0), (26, 0), (30, 16), (36, 21), (28, 16), (28, 16), (28, 16), (33, 18), (15, 0)]
theorem rt3_2_ok : rchkL (runR S1) 7 3 32 od3_2 nxrt3_2 = true := by kernel_rfl
def nxrt3_3 : List (Nat × Nat) := [(26, 0), (25, 0), (29, 0), (21, 0), (19, 16), (19, 16), (21, 18), (15, 0), (26, 0), (31, 16), (29, 0), (21, 0), (21, 0), (21, 0), (26, 0), (15, 0)]
theorem rt3_3_ok : rchkL (runR S1) 7 3 48 od3_3 nxrt3_3 = true := by kernel_rfl
def nxrt3_4 : List (Nat × Nat) := [(21, 0), (21, 0), (21, 0), (21, 0), (28, 13), (28, 13), (17, 13), (21, 0), (21, 0), (21, 0), (21, 0), (21, 0), (28, 13), (28, 13), (17, 13), (21, 0)]
theorem rt3_4_ok : rchkL (runR S1) 7 3 64 od3_4 nxrt3_4 = true := by kernel_rfl
def nxrt3_5 : List (Nat × Nat) := [(21, 0), (21, 0), (21, 0), (21, 0), (28, 13), (28, 13), (17, 13), (21, 0), (21, 0), (21, 0), (21, 0), (21, 0), (28, 13), (28, 13), (17, 13), (21, 0)]
theorem rt3_5_ok : rchkL (runR S1) 7 3 80 od3_5 nxrt3_5 = true := by kernel_rfl
def nxrt3_6 : List (Nat × Nat) := [(28, 13), (28, 13), (28, 13), (28, 13), (27, 13), (27, 13), (17, 13), (28, 13), (28, 13), (28, 13), (28, 13), (28, 13), (27, 13), (27, 13), (17, 13), (28, 13)]
theorem rt3_6_ok : rchkL (runR S1) 7 3 96 od3_6 nxrt3_6 = true := by kernel_rfl
def nxrt3_7 : List (Nat × Nat) := [(16, 13), (16, 13), (16, 13), (16, 13), (16, 13), (16, 13), (9, 0), (16, 13), (21, 0), (21, 0), (21, 0), (21, 0), (28, 13), (28, 13), (17, 13), (21, 0)]
theorem rt3_7_ok : rchkL (runR S1) 7 3 112 od3_7 nxrt3_7 = true := by kernel_rfl
def nxrt3_8 : List (Nat × Nat) := [(25, 0), (25, 0), (25, 0), (25, 0), (32, 17), (32, 17), (21, 17), (25, 0), (25, 0), (25, 0), (25, 0), (25, 0), (32, 17), (32, 17), (21, 17), (25, 0)]
theorem rt3_8_ok : rchkL (runR S1) 7 3 128 od3_8 nxrt3_8 = true := by kernel_rfl
def nxrt3_9 : List (Nat × Nat) := [(19, 0), (19, 0), (19, 0), (19, 0), (26, 14), (26, 14), (17, 14), (19, 0), (25, 0), (25, 0), (25, 0), (25, 0), (32, 17), (32, 17), (21, 17), (25, 0)]
theorem rt3_9_ok : rchkL (runR S1) 7 3 144 od3_9 nxrt3_9 = true := by kernel_rfl
def nxrt3_10 : List (Nat × Nat) := [(19, 0), (19, 0), (19, 0), (19, 0), (26, 14), (26, 14), (17, 14), (19, 0), (19, 0), (19, 0), (19, 0), (19, 0), (26, 14), (26, 14), (17, 14), (19, 0)]
theorem rt3_10_ok : rchkL (runR S1) 7 3 160 od3_10 nxrt3_10 = true := by kernel_rfl
def nxrt3_11 : List (Nat × Nat) := [(19, 0), (19, 0), (19, 0), (19, 0), (26, 14), (26, 14), (17, 14), (19, 0), (19, 0), (19, 0), (19, 0), (19, 0), (26, 14), (26, 14), (17, 14), (19, 0)]
theorem rt3_11_ok : rchkL (runR S1) 7 3 176 od3_11 nxrt3_11 = true := by kernel_rfl
def nxrt3_12 : List (Nat × Nat) := [(19, 0), (19, 0), (22, 0), (46, 0), (24, 0), (19, 0), (28, 0), (19, 0), (19, 0), (23, 0), (22, 0), (2, 0), (24, 0), (19, 0), (28, 0), (19, 0)]
theorem rt3_12_ok : rchkL (runR S1) 7 3 192 od3_12 nxrt3_12 = true := by kernel_rfl
def nxrt3_13 : List (Nat × Nat) := [(19, 0), (19, 0), (22, 0), (50, 0), (24, 0), (19, 0), (22, 0), (19, 0), (19, 0), (23, 0), (22, 0), (50, 0), (24, 0), (11, 0), (28, 0), (19, 0)]
theorem rt3_13_ok : rchkL (runR S1) 7 3 208 od3_13 nxrt3_13 = true := by kernel_rfl
def nxrt3_14 : List (Nat × Nat) := [(19, 0), (26, 14), (22, 0), (57, 42), (24, 0), (26, 14), (22, 0), (19, 0), (19, 0), (34, 22), (22, 0), (57, 0), (24, 0), (11, 0), (22, 0), (19, 0)]
theorem rt3_14_ok : rchkL (runR S1) 7 3 224 od3_14 nxrt3_14 = true := by kernel_rfl
def nxrt3_15 : List (Nat × Nat) := [(19, 0), (19, 0), (22, 0), (43, 0), (24, 0), (19, 0), (22, 0), (19, 0), (19, 0), (37, 22), (22, 0), (43, 0), (24, 0), (11, 0), (22, 0), (19, 0)]
theorem rt3_15_ok : rchkL (runR S1) 7 3 240 od3_15 nxrt3_15 = true := by kernel_rfl
def nxrt3 : List (List (Nat × Nat)) := [nxrt3_0, nxrt3_1, nxrt3_2, nxrt3_3, nxrt3_4, nxrt3_5, nxrt3_6, nxrt3_7, nxrt3_8, nxrt3_9, nxrt3_10, nxrt3_11, nxrt3_12, nxrt3_13, nxrt3_14, nxrt3_15]
theorem rt3_ok : rChkP (runR S1) 7 3 0 od3 nxrt3 := And.intro rt3_0_ok (And.intro rt3_1_ok (And.intro rt3_2_ok (And.intro rt3_3_ok (And.intro rt3_4_ok (And.intro rt3_5_ok (And.intro rt3_6_ok (And.intro rt3_7_ok (And.intro rt3_8_ok (And.intro rt3_9_ok (And.intro rt3_10_ok (And.intro rt3_11_ok (And.intro rt3_12_ok (And.intro rt3_13_ok (And.intro rt3_14_ok (And.intro rt3_15_ok (trivial))))))))))))))))
end Go.Proofs.YtpjcgimgiegehaaGreatDoor.Ex
