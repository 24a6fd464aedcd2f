/- What the reference's At answers: page 4. -/
import Derived.Test.YtpjcgimgiegehaaGreatDoorMK4
namespace Go.Proofs.YtpjcgimgiegehaaGreatDoor.Ex
open Go.RowKit

def nxrt4_0 : List (Nat × Nat) := [(14, 0), (25, 0), (29, 0), (21, 0), (21, 0), (21, 0), (26, 0), (15, 0), (26, 0), (31, 16), (29, 0), (21, 0), (21, 0), (21, 0), (26, 0), (15, 0)]
theorem rt4_0_ok : rchkL (runR S1) 7 4 0 od4_0 nxrt4_0 = true := by kernel_rfl
def nxrt4_1 : List (Nat × Nat) := [(21, 0), (25, 0), (29, 0), (21, 0), (21, 0), (21, 0), (26, 0), (15, 0), (21, 0), (31, 16), (29, 0), (21, 0), (21, 0), (21, 0), (26, 0), (15, 0)]
theorem rt4_1_ok : rchkL (runR S1) 7 4 16 od4_1 nxrt4_1 = true := by kernel_rfl
def nxrt4_2 : List (Nat × Nat) := [(26, 0), (32, 17), (36, 21), (28, 16), (28, 16), (28, 16), (33, 18), (15, 0), (26, 0), (30, 16), (36, 21), (28, 16), (28, 16), (28, 16), (33, 18), (15, 0)]
theorem rt4_2_ok : rchkL (runR S1) 7 4 32 od4_2 nxrt4_2 = true := by kernel_rfl
def nxrt4_3 : List (Nat × Nat) := [(26, 0), (25, 0), (29, 0), (21, 0), (19, 16), (19, 16), (21, 18), (15, 0), (26, 0), (31, 16), (29, 0), (21, 0), (21, 0), (21, 0), (26, 0), (15, 0)]
theorem rt4_3_ok : rchkL (runR S1) 7 4 48 od4_3 nxrt4_3 = true := by kernel_rfl
def nxrt4_4 : List (Nat × Nat) := [(21, 0), (21, 0), (21, 0), (21, 0), (28, 13), (28, 13), (17, 13), (21, 0), (21, 0), (21, 0), (21, 0), (21, 0), (28, 13), (28, 13), (17, 13), (21, 0)]
theorem rt4_4_ok : rchkL (runR S1) 7 4 64 od4_4 nxrt4_4 = true := by kernel_rfl
def nxrt4_5 : List (Nat × Nat) := [(21, 0), (21, 0), (21, 0), (21, 0), (28, 13), (28, 13), (17, 13), (21, 0), (21, 0), (21, 0), (21, 0), (21, 0), (28, 13), (28, 13), (17, 13), (21, 0)]
theorem rt4_5_ok : rchkL (runR S1) 7 4 80 od4_5 nxrt4_5 = true := by kernel_rfl
def nxrt4_6 : List (Nat × Nat) := [(28, 13), (28, 13), (28, 13), (28, 13), (27, 13), (27, 13), (17, 13), (28, 13), (28, 13), (28, 13), (28, 13), (28, 13), (27, 13), (27, 13), (17, 13), (28, 13)]
theorem rt4_6_ok : rchkL (runR S1) 7 4 96 od4_6 nxrt4_6 = true := by kernel_rfl
def nxrt4_7 : List (Nat × Nat) := [(16, 13), (16, 13), (16, 13), (16, 13), (16, 13), (16, 13), (9, 0), (16, 13), (21, 0), (21, 0), (21, 0), (21, 0), (28, 13), (28, 13), (17, 13), (21, 0)]
theorem rt4_7_ok : rchkL (runR S1) 7 4 112 od4_7 nxrt4_7 = true := by kernel_rfl
def nxrt4_8 : List (Nat × Nat) := [(25, 0), (25, 0), (25, 0), (25, 0), (32, 17), (32, 17), (21, 17), (25, 0), (25, 0), (25, 0), (25, 0), (25, 0), (32, 17), (32, 17), (21, 17), (25, 0)]
theorem rt4_8_ok : rchkL (runR S1) 7 4 128 od4_8 nxrt4_8 = true := by kernel_rfl
def nxrt4_9 : List (Nat × Nat) := [(19, 0), (19, 0), (19, 0), (19, 0), (26, 14), (26, 14), (17, 14), (19, 0), (25, 0), (25, 0), (25, 0), (25, 0), (32, 17), (32, 17), (21, 17), (25, 0)]
theorem rt4_9_ok : rchkL (runR S1) 7 4 144 od4_9 nxrt4_9 = true := by kernel_rfl
def nxrt4_10 : List (Nat × Nat) := [(19, 0), (19, 0), (19, 0), (19, 0), (26, 14), (26, 14), (17, 14), (19, 0), (19, 0), (19, 0), (19, 0), (19, 0), (26, 14), (26, 14), (17, 14), (19, 0)]
theorem rt4_10_ok : rchkL (runR S1) 7 4 160 od4_10 nxrt4_10 = true := by kernel_rfl
def nxrt4_11 : List (Nat × Nat) := [(19, 0), (19, 0), (19, 0), (19, 0), (26, 14), (26, 14), (17, 14), (19, 0), (19, 0), (19, 0), (19, 0), (19, 0), (26, 14), (26, 14), (17, 14), (19, 0)]
theorem rt4_11_ok : rchkL (runR S1) 7 4 176 od4_11 nxrt4_11 = true := by kernel_rfl
def nxrt4_12 : List (Nat × Nat) := [(19, 0), (19, 0), (22, 0), (46, 0), (24, 0), (19, 0), (28, 0), (19, 0), (19, 0), (23, 0), (22, 0), (2, 0), (24, 0), (19, 0), (28, 0), (19, 0)]
theorem rt4_12_ok : rchkL (runR S1) 7 4 192 od4_12 nxrt4_12 = true := by kernel_rfl
def nxrt4_13 : List (Nat × Nat) := [(19, 0), (19, 0), (22, 0), (50, 0), (24, 0), (19, 0), (22, 0), (19, 0), (19, 0), (23, 0), (22, 0), (50, 0), (24, 0), (11, 0), (28, 0), (19, 0)]
theorem rt4_13_ok : rchkL (runR S1) 7 4 208 od4_13 nxrt4_13 = true := by kernel_rfl
def nxrt4_14 : List (Nat × Nat) := [(19, 0), (26, 14), (22, 0), (57, 42), (24, 0), (26, 14), (22, 0), (19, 0), (19, 0), (34, 22), (22, 0), (57, 0), (24, 0), (11, 0), (22, 0), (19, 0)]
theorem rt4_14_ok : rchkL (runR S1) 7 4 224 od4_14 nxrt4_14 = true := by kernel_rfl
def nxrt4_15 : List (Nat × Nat) := [(19, 0), (19, 0), (22, 0), (43, 0), (24, 0), (19, 0), (22, 0), (19, 0), (19, 0), (37, 22), (22, 0), (43, 0), (24, 0), (11, 0), (22, 0), (19, 0)]
theorem rt4_15_ok : rchkL (runR S1) 7 4 240 od4_15 nxrt4_15 = true := by kernel_rfl
def nxrt4 : List (List (Nat × Nat)) := [nxrt4_0, nxrt4_1, nxrt4_2, nxrt4_3, nxrt4_4, nxrt4_5, nxrt4_6, nxrt4_7, nxrt4_8, nxrt4_9, nxrt4_10, nxrt4_11, nxrt4_12, nxrt4_13, nxrt4_14, nxrt4_15]
theorem rt4_ok : rChkP (runR S1) 7 4 0 od4 nxrt4 := And.intro rt4_0_ok (And.intro rt4_1_ok (And.intro rt4_2_ok (And.intro rt4_3_ok (And.intro rt4_4_ok (And.intro rt4_5_ok (And.intro rt4_6_ok (And.intro rt4_7_ok (And.intro rt4_8_ok (And.intro rt4_9_ok (And.intro rt4_10_ok (And.intro rt4_11_ok (And.intro rt4_12_ok (And.intro rt4_13_ok (And.intro rt4_14_ok (And.intro rt4_15_ok (trivial))))))))))))))))
end Go.Proofs.YtpjcgimgiegehaaGreatDoor.Ex
