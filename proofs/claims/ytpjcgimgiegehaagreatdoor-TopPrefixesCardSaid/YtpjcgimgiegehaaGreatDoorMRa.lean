/- What the reference's At answers: page 0. -/
import Derived.Test.YtpjcgimgiegehaaGreatDoorMK4
namespace Go.Proofs.YtpjcgimgiegehaaGreatDoor.Ex
open Go.RowKit

def nxrt0_0 : List (Nat × Nat) := [(9, 0), (13, 1011), (17, 1015), (12, 1009), (12, 1010), (12, 1010), (14, 1012), (10, 0), (14, 1012), (12, 1010), (17, 1015), (12, 1009), (12, 1010), (12, 1010), (14, 1012), (10, 0)]
theorem rt0_0_ok : rchkL (runR S1) 7 0 0 od0_0 nxrt0_0 = true := by kernel_rfl
def nxrt0_1 : List (Nat × Nat) := [(12, 1010), (13, 1011), (17, 1015), (12, 1009), (12, 1010), (12, 1010), (14, 1012), (10, 0), (12, 1010), (12, 1010), (17, 1015), (12, 1009), (12, 1010), (12, 1010), (14, 1012), (10, 0)]
theorem rt0_1_ok : rchkL (runR S1) 7 0 16 od0_1 nxrt0_1 = true := by kernel_rfl
def nxrt0_2 : List (Nat × Nat) := [(14, 1012), (13, 1011), (17, 1015), (12, 1009), (12, 1010), (12, 1010), (14, 1012), (10, 0), (14, 1012), (12, 1010), (17, 1015), (12, 1009), (12, 1010), (12, 1010), (14, 1012), (10, 0)]
theorem rt0_2_ok : rchkL (runR S1) 7 0 32 od0_2 nxrt0_2 = true := by kernel_rfl
def nxrt0_3 : List (Nat × Nat) := [(14, 1012), (13, 1011), (17, 1015), (12, 1009), (12, 1010), (12, 1010), (14, 1012), (10, 0), (14, 1012), (12, 1010), (17, 1015), (12, 1009), (12, 1010), (12, 1010), (14, 1012), (10, 0)]
theorem rt0_3_ok : rchkL (runR S1) 7 0 48 od0_3 nxrt0_3 = true := by kernel_rfl
def nxrt0_4 : List (Nat × Nat) := [(9, 1007), (9, 1007), (9, 1007), (9, 1007), (9, 1007), (9, 1007), (9, 1007), (9, 1007), (9, 1007), (9, 1007), (9, 1007), (9, 1007), (9, 1007), (9, 1007), (9, 1007), (9, 1007)]
theorem rt0_4_ok : rchkL (runR S1) 7 0 64 od0_4 nxrt0_4 = true := by kernel_rfl
def nxrt0_5 : List (Nat × Nat) := [(9, 1007), (9, 1007), (9, 1007), (9, 1007), (9, 1007), (9, 1007), (9, 1007), (9, 1007), (9, 1007), (9, 1007), (9, 1007), (9, 1007), (9, 1007), (9, 1007), (9, 1007), (9, 1007)]
theorem rt0_5_ok : rchkL (runR S1) 7 0 80 od0_5 nxrt0_5 = true := by kernel_rfl
def nxrt0_6 : List (Nat × Nat) := [(9, 1007), (9, 1007), (9, 1007), (9, 1007), (9, 1007), (9, 1007), (9, 1007), (9, 1007), (9, 1007), (9, 1007), (9, 1007), (9, 1007), (9, 1007), (9, 1007), (9, 1007), (9, 1007)]
theorem rt0_6_ok : rchkL (runR S1) 7 0 96 od0_6 nxrt0_6 = true := by kernel_rfl
def nxrt0_7 : List (Nat × Nat) := [(9, 1007), (9, 1007), (9, 1007), (9, 1007), (9, 1007), (9, 1007), (4, 0), (9, 1007), (9, 1007), (9, 1007), (9, 1007), (9, 1007), (9, 1007), (9, 1007), (9, 1007), (9, 1007)]
theorem rt0_7_ok : rchkL (runR S1) 7 0 112 od0_7 nxrt0_7 = true := by kernel_rfl
def nxrt0_8 : List (Nat × Nat) := [(13, 1011), (13, 1011), (13, 1011), (13, 1011), (13, 1011), (13, 1011), (13, 1011), (13, 1011), (13, 1011), (13, 1011), (13, 1011), (13, 1011), (13, 1011), (13, 1011), (13, 1011), (13, 1011)]
theorem rt0_8_ok : rchkL (runR S1) 7 0 128 od0_8 nxrt0_8 = true := by kernel_rfl
def nxrt0_9 : List (Nat × Nat) := [(10, 1008), (10, 1008), (10, 1008), (10, 1008), (10, 1008), (10, 1008), (10, 1008), (10, 1008), (13, 1011), (13, 1011), (13, 1011), (13, 1011), (13, 1011), (13, 1011), (13, 1011), (13, 1011)]
theorem rt0_9_ok : rchkL (runR S1) 7 0 144 od0_9 nxrt0_9 = true := by kernel_rfl
def nxrt0_10 : List (Nat × Nat) := [(10, 1008), (10, 1008), (10, 1008), (10, 1008), (10, 1008), (10, 1008), (10, 1008), (10, 1008), (10, 1008), (10, 1008), (10, 1008), (10, 1008), (10, 1008), (10, 1008), (10, 1008), (10, 1008)]
theorem rt0_10_ok : rchkL (runR S1) 7 0 160 od0_10 nxrt0_10 = true := by kernel_rfl
def nxrt0_11 : List (Nat × Nat) := [(10, 1008), (10, 1008), (10, 1008), (10, 1008), (10, 1008), (10, 1008), (10, 1008), (10, 1008), (10, 1008), (10, 1008), (10, 1008), (10, 1008), (10, 1008), (10, 1008), (10, 1008), (10, 1008)]
theorem rt0_11_ok : rchkL (runR S1) 7 0 176 od0_11 nxrt0_11 = true := by kernel_rfl
def nxrt0_12 : List (Nat × Nat) := [(10, 1008), (10, 1008), (12, 1010), (38, 1008), (12, 1010), (10, 1008), (16, 1014), (10, 1008), (10, 1008), (18, 0), (12, 1010), (38, 0), (12, 1010), (10, 1008), (16, 1014), (10, 1008)]
theorem rt0_12_ok : rchkL (runR S1) 7 0 192 od0_12 nxrt0_12 = true := by kernel_rfl
def nxrt0_13 : List (Nat × Nat) := [(10, 1008), (10, 1008), (12, 1010), (38, 1015), (12, 1010), (10, 1008), (13, 1011), (10, 1008), (10, 1008), (18, 0), (12, 1010), (38, 1022), (12, 1010), (6, 0), (16, 1014), (10, 1008)]
theorem rt0_13_ok : rchkL (runR S1) 7 0 208 od0_13 nxrt0_13 = true := by kernel_rfl
def nxrt0_14 : List (Nat × Nat) := [(10, 1008), (10, 1008), (12, 1010), (38, 1027), (12, 1010), (10, 1008), (13, 1011), (10, 1008), (10, 1008), (18, 1010), (12, 1010), (38, 1032), (12, 1010), (6, 0), (13, 1011), (10, 1008)]
theorem rt0_14_ok : rchkL (runR S1) 7 0 224 od0_14 nxrt0_14 = true := by kernel_rfl
def nxrt0_15 : List (Nat × Nat) := [(10, 1008), (10, 1008), (12, 1010), (38, 0), (12, 1010), (10, 1008), (13, 1011), (10, 1008), (10, 1008), (18, 1015), (12, 1010), (38, 0), (12, 1010), (6, 0), (13, 1011), (10, 1008)]
theorem rt0_15_ok : rchkL (runR S1) 7 0 240 od0_15 nxrt0_15 = true := by kernel_rfl
def nxrt0 : List (List (Nat × Nat)) := [nxrt0_0, nxrt0_1, nxrt0_2, nxrt0_3, nxrt0_4, nxrt0_5, nxrt0_6, nxrt0_7, nxrt0_8, nxrt0_9, nxrt0_10, nxrt0_11, nxrt0_12, nxrt0_13, nxrt0_14, nxrt0_15]
theorem rt0_ok : rChkP (runR S1) 7 0 0 od0 nxrt0 := And.intro rt0_0_ok (And.intro rt0_1_ok (And.intro rt0_2_ok (And.intro rt0_3_ok (And.intro rt0_4_ok (And.intro rt0_5_ok (And.intro rt0_6_ok (And.intro rt0_7_ok (And.intro rt0_8_ok (And.intro rt0_9_ok (And.intro rt0_10_ok (And.intro rt0_11_ok (And.intro rt0_12_ok (And.intro rt0_13_ok (And.intro rt0_14_ok (And.intro rt0_15_ok (trivial))))))))))))))))
end Go.Proofs.YtpjcgimgiegehaaGreatDoor.Ex
