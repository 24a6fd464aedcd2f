/- Parts of the proof of TopPrefixes, in one text: ExRt1, ExRt2. -/
import Derived.Test.YtpjcgimgiegehaaGreatDoorMK4
/- What the reference's At answers: page 1. -/
namespace Go.Proofs.YtpjcgimgiegehaaGreatDoor.Ex
open Go.RowKit

def nxrt1_0 : List (Nat × Nat) := [(9, 1006), (9, 1006), (9, 1006), (9, 1006), (9, 1006), (9, 1006), (9, 1006), (9, 1006), (9, 1006), (9, 1006), (9, 1006), (9, 1006), (9, 1006), (9, 1006), (9, 1006), (9, 1006)]
theorem rt1_0_ok : rchkL (runR S1) 7 1 0 od1_0 nxrt1_0 = true := by kernel_rfl
def nxrt1_1 : List (Nat × Nat) := [(9, 1006), (9, 1006), (9, 1006), (9, 1006), (9, 1006), (9, 1006), (9, 1006), (9, 1006), (9, 1006), (9, 1006), (9, 1006), (9, 1006), (9, 1006), (9, 1006), (9, 1006), (9, 1006)]
theorem rt1_1_ok : rchkL (runR S1) 7 1 16 od1_1 nxrt1_1 = true := by kernel_rfl
def nxrt1_2 : List (Nat × Nat) := [(9, 1006), (9, 1006), (9, 1006), (9, 1006), (9, 1006), (9, 1006), (9, 1006), (9, 1006), (9, 1006), (9, 1006), (9, 1006), (9, 1006), (9, 1006), (9, 1006), (9, 1006), (9, 1006)]
theorem rt1_2_ok : rchkL (runR S1) 7 1 32 od1_2 nxrt1_2 = true := by kernel_rfl
def nxrt1_3 : List (Nat × Nat) := [(9, 1006), (9, 1006), (9, 1006), (9, 1006), (9, 1006), (9, 1006), (9, 1006), (9, 1006), (9, 1006), (9, 1006), (9, 1006), (9, 1006), (9, 1006), (9, 1006), (9, 1006), (9, 1006)]
theorem rt1_3_ok : rchkL (runR S1) 7 1 48 od1_3 nxrt1_3 = true := by kernel_rfl
def nxrt1_4 : List (Nat × Nat) := [(10, 1008), (10, 1008), (10, 1008), (10, 1008), (10, 1008), (10, 1008), (10, 1008), (10, 1008), (10, 1008), (10, 1008), (10, 1008), (10, 1008), (10, 1008), (10, 1008), (10, 1008), (10, 1008)]
theorem rt1_4_ok : rchkL (runR S1) 7 1 64 od1_4 nxrt1_4 = true := by kernel_rfl
def nxrt1_5 : List (Nat × Nat) := [(10, 1008), (10, 1008), (10, 1008), (10, 1008), (10, 1008), (10, 1008), (10, 1008), (10, 1008), (10, 1008), (10, 1008), (10, 1008), (10, 1008), (10, 1008), (10, 1008), (10, 1008), (10, 1008)]
theorem rt1_5_ok : rchkL (runR S1) 7 1 80 od1_5 nxrt1_5 = true := by kernel_rfl
def nxrt1_6 : List (Nat × Nat) := [(10, 1008), (10, 1008), (10, 1008), (10, 1008), (10, 1008), (10, 1008), (10, 1008), (10, 1008), (10, 1008), (10, 1008), (10, 1008), (10, 1008), (10, 1008), (10, 1008), (10, 1008), (10, 1008)]
theorem rt1_6_ok : rchkL (runR S1) 7 1 96 od1_6 nxrt1_6 = true := by kernel_rfl
def nxrt1_7 : List (Nat × Nat) := [(10, 1008), (10, 1008), (10, 1008), (10, 1008), (10, 1008), (10, 1008), (10, 1008), (10, 1008), (10, 1008), (10, 1008), (10, 1008), (10, 1008), (10, 1008), (10, 1008), (10, 1008), (10, 1008)]
theorem rt1_7_ok : rchkL (runR S1) 7 1 112 od1_7 nxrt1_7 = true := by kernel_rfl
def nxrt1_8 : List (Nat × Nat) := [(10, 1008), (10, 1008), (10, 1008), (10, 1008), (10, 1008), (10, 1008), (10, 1008), (10, 1008), (10, 1008), (10, 1008), (10, 1008), (10, 1008), (10, 1008), (10, 1008), (10, 1008), (10, 1008)]
theorem rt1_8_ok : rchkL (runR S1) 7 1 128 od1_8 nxrt1_8 = true := by kernel_rfl
def nxrt1_9 : List (Nat × Nat) := [(10, 1008), (10, 1008), (10, 1008), (10, 1008), (10, 1008), (10, 1008), (10, 1008), (10, 1008), (10, 1008), (10, 1008), (10, 1008), (10, 1008), (10, 1008), (10, 1008), (10, 1008), (10, 1008)]
theorem rt1_9_ok : rchkL (runR S1) 7 1 144 od1_9 nxrt1_9 = true := by kernel_rfl
def nxrt1_10 : List (Nat × Nat) := [(10, 1008), (10, 1008), (10, 1008), (10, 1008), (10, 1008), (10, 1008), (10, 1008), (10, 1008), (10, 1008), (10, 1008), (10, 1008), (10, 1008), (10, 1008), (10, 1008), (10, 1008), (10, 1008)]
theorem rt1_10_ok : rchkL (runR S1) 7 1 160 od1_10 nxrt1_10 = true := by kernel_rfl
def nxrt1_11 : List (Nat × Nat) := [(10, 1008), (10, 1008), (10, 1008), (10, 1008), (10, 1008), (10, 1008), (10, 1008), (10, 1008), (10, 1008), (10, 1008), (10, 1008), (10, 1008), (10, 1008), (10, 1008), (10, 1008), (10, 1008)]
theorem rt1_11_ok : rchkL (runR S1) 7 1 176 od1_11 nxrt1_11 = true := by kernel_rfl
def nxrt1_12 : List (Nat × Nat) := [(10, 1008), (10, 1008), (10, 1008), (10, 1008), (10, 1008), (10, 1008), (10, 1008), (10, 1008), (10, 1008), (10, 1008), (10, 1008), (10, 1008), (10, 1008), (10, 1008), (10, 1008), (10, 1008)]
theorem rt1_12_ok : rchkL (runR S1) 7 1 192 od1_12 nxrt1_12 = true := by kernel_rfl
def nxrt1_13 : List (Nat × Nat) := [(10, 1008), (10, 1008), (10, 1008), (10, 1008), (10, 1008), (10, 1008), (10, 1008), (10, 1008), (10, 1008), (10, 1008), (10, 1008), (10, 1008), (10, 1008), (10, 1008), (10, 1008), (10, 1008)]
theorem rt1_13_ok : rchkL (runR S1) 7 1 208 od1_13 nxrt1_13 = true := by kernel_rfl
def nxrt1_14 : List (Nat × Nat) := [(10, 1008), (10, 1008), (10, 1008), (10, 1008), (10, 1008), (10, 1008), (10, 1008), (10, 1008), (10, 1008), (10, 1008), (10, 1008), (10, 1008), (10, 1008), (10, 1008), (10, 1008), (10, 1008)]
theorem rt1_14_ok : rchkL (runR S1) 7 1 224 od1_14 nxrt1_14 = true := by kernel_rfl
def nxrt1_15 : List (Nat × Nat) := [(10, 1008), (10, 1008), (10, 1008), (10, 1008), (10, 1008), (10, 1008), (10, 1008), (10, 1008), (10, 1008), (10, 1008), (10, 1008), (10, 1008), (10, 1008), (10, 1008), (10, 1008), (10, 1008)]
theorem rt1_15_ok : rchkL (runR S1) 7 1 240 od1_15 nxrt1_15 = true := by kernel_rfl
def nxrt1 : List (List (Nat × Nat)) := [nxrt1_0, nxrt1_1, nxrt1_2, nxrt1_3, nxrt1_4, nxrt1_5, nxrt1_6, nxrt1_7, nxrt1_8, nxrt1_9, nxrt1_10, nxrt1_11, nxrt1_12, nxrt1_13, nxrt1_14, nxrt1_15]
theorem rt1_ok : rChkP (runR S1) 7 1 0 od1 nxrt1 := And.intro rt1_0_ok (And.intro rt1_1_ok (And.intro rt1_2_ok (And.intro rt1_3_ok (And.intro rt1_4_ok (And.intro rt1_5_ok (And.intro rt1_6_ok (And.intro rt1_7_ok (And.intro rt1_8_ok (And.intro rt1_9_ok (And.intro rt1_10_ok (And.intro rt1_11_ok (And.intro rt1_12_ok (And.intro rt1_13_ok (And.intro rt1_14_ok (And.intro rt1_15_ok (trivial))))))))))))))))
end Go.Proofs.YtpjcgimgiegehaaGreatDoor.Ex

/- What the reference's At answers: page 2. -/
namespace Go.Proofs.YtpjcgimgiegehaaGreatDoor.Ex
open Go.RowKit

def nxrt2_0 : List (Nat × Nat) := [(3, 0), (3, 0), (3, 0), (3, 0), (3, 0), (3, 0), (3, 0), (3, 0), (3, 0), (3, 0), (3, 0), (3, 0), (3, 0), (3, 0), (3, 0), (3, 0)]
theorem rt2_0_ok : rchkL (runR S1) 7 2 0 od2_0 nxrt2_0 = true := by kernel_rfl
def nxrt2_1 : List (Nat × Nat) := [(3, 0), (3, 0), (3, 0), (3, 0), (3, 0), (3, 0), (3, 0), (3, 0), (3, 0), (3, 0), (3, 0), (3, 0), (3, 0), (3, 0), (3, 0), (3, 0)]
theorem rt2_1_ok : rchkL (runR S1) 7 2 16 od2_1 nxrt2_1 = true := by kernel_rfl
def nxrt2_2 : List (Nat × Nat) := [(3, 0), (3, 0), (3, 0), (3, 0), (3, 0), (3, 0), (3, 0), (3, 0), (3, 0), (3, 0), (3, 0), (3, 0), (3, 0), (3, 0), (3, 0), (3, 0)]
theorem rt2_2_ok : rchkL (runR S1) 7 2 32 od2_2 nxrt2_2 = true := by kernel_rfl
def nxrt2_3 : List (Nat × Nat) := [(3, 0), (3, 0), (3, 0), (3, 0), (3, 0), (3, 0), (3, 0), (3, 0), (3, 0), (3, 0), (3, 0), (3, 0), (3, 0), (3, 0), (3, 0), (3, 0)]
theorem rt2_3_ok : rchkL (runR S1) 7 2 48 od2_3 nxrt2_3 = true := by kernel_rfl
def nxrt2_4 : List (Nat × Nat) := [(13, 1011), (13, 1011), (12, 1009), (12, 1010), (8, 0), (8, 0), (12, 1010), (31, 1014), (13, 1011), (13, 1011), (12, 1009), (12, 1010), (8, 0), (8, 0), (12, 1010), (31, 1018)]
theorem rt2_4_ok : rchkL (runR S1) 7 2 64 od2_4 nxrt2_4 = true := by kernel_rfl
def nxrt2_5 : List (Nat × Nat) := [(13, 1011), (13, 1011), (12, 1009), (12, 1010), (8, 0), (8, 0), (12, 1010), (31, 1022), (13, 1011), (13, 1011), (12, 1009), (12, 1010), (8, 0), (8, 0), (12, 1010), (31, 1026)]
theorem rt2_5_ok : rchkL (runR S1) 7 2 80 od2_5 nxrt2_5 = true := by kernel_rfl
def nxrt2_6 : List (Nat × Nat) := [(13, 1011), (13, 1011), (12, 1009), (12, 1010), (8, 0), (8, 0), (12, 1010), (31, 0), (13, 1011), (13, 1011), (12, 1009), (12, 1010), (8, 0), (8, 0), (12, 1010), (31, 0)]
theorem rt2_6_ok : rchkL (runR S1) 7 2 96 od2_6 nxrt2_6 = true := by kernel_rfl
def nxrt2_7 : List (Nat × Nat) := [(11, 1009), (13, 1011), (12, 1009), (12, 1010), (8, 0), (8, 0), (12, 1010), (31, 0), (13, 1011), (13, 1011), (12, 1009), (12, 1010), (8, 0), (8, 0), (12, 1010), (31, 0)]
theorem rt2_7_ok : rchkL (runR S1) 7 2 112 od2_7 nxrt2_7 = true := by kernel_rfl
def nxrt2_8 : List (Nat × Nat) := [(3, 0), (3, 0), (3, 0), (3, 0), (3, 0), (3, 0), (3, 0), (3, 0), (3, 0), (3, 0), (3, 0), (3, 0), (3, 0), (3, 0), (3, 0), (3, 0)]
theorem rt2_8_ok : rchkL (runR S1) 7 2 128 od2_8 nxrt2_8 = true := by kernel_rfl
def nxrt2_9 : List (Nat × Nat) := [(3, 0), (3, 0), (3, 0), (3, 0), (3, 0), (3, 0), (3, 0), (3, 0), (3, 0), (3, 0), (3, 0), (3, 0), (3, 0), (3, 0), (3, 0), (3, 0)]
theorem rt2_9_ok : rchkL (runR S1) 7 2 144 od2_9 nxrt2_9 = true := by kernel_rfl
def nxrt2_10 : List (Nat × Nat) := [(9, 0), (9, 0), (9, 0), (9, 0), (3, 0), (3, 0), (3, 0), (3, 0), (9, 0), (9, 0), (9, 0), (9, 0), (3, 0), (3, 0), (3, 0), (3, 0)]
theorem rt2_10_ok : rchkL (runR S1) 7 2 160 od2_10 nxrt2_10 = true := by kernel_rfl
def nxrt2_11 : List (Nat × Nat) := [(9, 0), (9, 0), (9, 0), (9, 0), (3, 0), (3, 0), (3, 0), (3, 0), (9, 0), (9, 0), (9, 0), (9, 0), (3, 0), (3, 0), (3, 0), (3, 0)]
theorem rt2_11_ok : rchkL (runR S1) 7 2 176 od2_11 nxrt2_11 = true := by kernel_rfl
def nxrt2_12 : List (Nat × Nat) := [(3, 0), (3, 0), (3, 0), (3, 0), (3, 0), (3, 0), (3, 0), (3, 0), (3, 0), (3, 0), (3, 0), (3, 0), (3, 0), (3, 0), (3, 0), (3, 0)]
theorem rt2_12_ok : rchkL (runR S1) 7 2 192 od2_12 nxrt2_12 = true := by kernel_rfl
def nxrt2_13 : List (Nat × Nat) := [(3, 0), (3, 0), (3, 0), (3, 0), (3, 0), (3, 0), (3, 0), (3, 0), (3, 0), (3, 0), (3, 0), (3, 0), (3, 0), (3, 0), (3, 0), (3, 0)]
theorem rt2_13_ok : rchkL (runR S1) 7 2 208 od2_13 nxrt2_13 = true := by kernel_rfl
def nxrt2_14 : List (Nat × Nat) := [(3, 0), (3, 0), (3, 0), (3, 0), (3, 0), (3, 0), (3, 0), (3, 0), (3, 0), (3, 0), (3, 0), (3, 0), (3, 0), (3, 0), (3, 0), (3, 0)]
theorem rt2_14_ok : rchkL (runR S1) 7 2 224 od2_14 nxrt2_14 = true := by kernel_rfl
def nxrt2_15 : List (Nat × Nat) := [(3, 0), (3, 0), (3, 0), (3, 0), (3, 0), (3, 0), (3, 0), (3, 0), (3, 0), (3, 0), (3, 0), (3, 0), (3, 0), (3, 0), (3, 0), (3, 0)]
theorem rt2_15_ok : rchkL (runR S1) 7 2 240 od2_15 nxrt2_15 = true := by kernel_rfl
def nxrt2 : List (List (Nat × Nat)) := [nxrt2_0, nxrt2_1, nxrt2_2, nxrt2_3, nxrt2_4, nxrt2_5, nxrt2_6, nxrt2_7, nxrt2_8, nxrt2_9, nxrt2_10, nxrt2_11, nxrt2_12, nxrt2_13, nxrt2_14, nxrt2_15]
theorem rt2_ok : rChkP (runR S1) 7 2 0 od2 nxrt2 := And.intro rt2_0_ok (And.intro rt2_1_ok (And.intro rt2_2_ok (And.intro rt2_3_ok (And.intro rt2_4_ok (And.intro rt2_5_ok (And.intro rt2_6_ok (And.intro rt2_7_ok (And.intro rt2_8_ok (And.intro rt2_9_ok (And.intro rt2_10_ok (And.intro rt2_11_ok (And.intro rt2_12_ok (And.intro rt2_13_ok (And.intro rt2_14_ok (And.intro rt2_15_ok (trivial))))))))))))))))
end Go.Proofs.YtpjcgimgiegehaaGreatDoor.Ex
