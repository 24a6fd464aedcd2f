/- Parts of the proof of TopPrefixes, in one text: ExRt5, ExRt6. -/
import Derived.Test.YtpjcgimgiegehaaGreatDoorMK4
/- What the reference's At answers: page 5. -/
namespace Go.Proofs.YtpjcgimgiegehaaGreatDoor.Ex
open Go.RowKit

def nxrt5_0 : List (Nat × Nat) := [(13, 12), (13, 12), (13, 12), (13, 12), (13, 12), (13, 12), (10, 1007), (13, 12), (13, 12), (13, 12), (13, 12), (13, 12), (13, 12), (13, 12), (10, 1007), (13, 12)]
theorem rt5_0_ok : rchkL (runR S1) 7 5 0 od5_0 nxrt5_0 = true := by kernel_rfl
def nxrt5_1 : List (Nat × Nat) := [(13, 12), (13, 12), (13, 12), (13, 12), (13, 12), (13, 12), (10, 1007), (13, 12), (13, 12), (13, 12), (13, 12), (13, 12), (13, 12), (13, 12), (10, 1007), (13, 12)]
theorem rt5_1_ok : rchkL (runR S1) 7 5 16 od5_1 nxrt5_1 = true := by kernel_rfl
def nxrt5_2 : List (Nat × Nat) := [(13, 12), (13, 12), (13, 12), (13, 12), (13, 12), (13, 12), (10, 1007), (13, 12), (13, 12), (13, 12), (13, 12), (13, 12), (13, 12), (13, 12), (10, 1007), (13, 12)]
theorem rt5_2_ok : rchkL (runR S1) 7 5 32 od5_2 nxrt5_2 = true := by kernel_rfl
def nxrt5_3 : List (Nat × Nat) := [(13, 12), (13, 12), (13, 12), (13, 12), (13, 12), (13, 12), (10, 1007), (13, 12), (13, 12), (13, 12), (13, 12), (13, 12), (13, 12), (13, 12), (10, 1007), (13, 12)]
theorem rt5_3_ok : rchkL (runR S1) 7 5 48 od5_3 nxrt5_3 = true := by kernel_rfl
def nxrt5_4 : List (Nat × Nat) := [(11, 1009), (11, 1009), (11, 1009), (11, 1009), (11, 1009), (11, 1009), (11, 1009), (11, 1009), (11, 1009), (11, 1009), (11, 1009), (11, 1009), (11, 1009), (11, 1009), (11, 1009), (11, 1009)]
theorem rt5_4_ok : rchkL (runR S1) 7 5 64 od5_4 nxrt5_4 = true := by kernel_rfl
def nxrt5_5 : List (Nat × Nat) := [(11, 1009), (11, 1009), (11, 1009), (11, 1009), (11, 1009), (11, 1009), (11, 1009), (11, 1009), (11, 1009), (11, 1009), (11, 1009), (11, 1009), (11, 1009), (11, 1009), (11, 1009), (11, 1009)]
theorem rt5_5_ok : rchkL (runR S1) 7 5 80 od5_5 nxrt5_5 = true := by kernel_rfl
def nxrt5_6 : List (Nat × Nat) := [(11, 1009), (11, 1009), (11, 1009), (11, 1009), (11, 1009), (11, 1009), (11, 1009), (11, 1009), (11, 1009), (11, 1009), (11, 1009), (11, 1009), (11, 1009), (11, 1009), (11, 1009), (11, 1009)]
theorem rt5_6_ok : rchkL (runR S1) 7 5 96 od5_6 nxrt5_6 = true := by kernel_rfl
def nxrt5_7 : List (Nat × Nat) := [(11, 1009), (11, 1009), (11, 1009), (11, 1009), (11, 1009), (11, 1009), (11, 1009), (11, 1009), (11, 1009), (11, 1009), (11, 1009), (11, 1009), (11, 1009), (11, 1009), (11, 1009), (11, 1009)]
theorem rt5_7_ok : rchkL (runR S1) 7 5 112 od5_7 nxrt5_7 = true := by kernel_rfl
def nxrt5_8 : List (Nat × Nat) := [(14, 13), (14, 13), (14, 13), (14, 13), (14, 13), (14, 13), (11, 1009), (14, 13), (14, 13), (14, 13), (14, 13), (14, 13), (14, 13), (14, 13), (11, 1009), (14, 13)]
theorem rt5_8_ok : rchkL (runR S1) 7 5 128 od5_8 nxrt5_8 = true := by kernel_rfl
def nxrt5_9 : List (Nat × Nat) := [(14, 13), (14, 13), (14, 13), (14, 13), (14, 13), (14, 13), (11, 1009), (14, 13), (14, 13), (14, 13), (14, 13), (14, 13), (14, 13), (14, 13), (11, 1009), (14, 13)]
theorem rt5_9_ok : rchkL (runR S1) 7 5 144 od5_9 nxrt5_9 = true := by kernel_rfl
def nxrt5_10 : List (Nat × Nat) := [(14, 13), (14, 13), (14, 13), (14, 13), (14, 13), (14, 13), (11, 1009), (14, 13), (14, 13), (14, 13), (14, 13), (14, 13), (14, 13), (14, 13), (11, 1009), (14, 13)]
theorem rt5_10_ok : rchkL (runR S1) 7 5 160 od5_10 nxrt5_10 = true := by kernel_rfl
def nxrt5_11 : List (Nat × Nat) := [(14, 13), (14, 13), (14, 13), (14, 13), (14, 13), (14, 13), (11, 1009), (14, 13), (14, 13), (14, 13), (14, 13), (14, 13), (14, 13), (14, 13), (11, 1009), (14, 13)]
theorem rt5_11_ok : rchkL (runR S1) 7 5 176 od5_11 nxrt5_11 = true := by kernel_rfl
def nxrt5_12 : List (Nat × Nat) := [(14, 13), (14, 13), (14, 13), (14, 13), (14, 13), (14, 13), (11, 1009), (14, 13), (14, 13), (14, 13), (14, 13), (14, 13), (14, 13), (14, 13), (11, 1009), (14, 13)]
theorem rt5_12_ok : rchkL (runR S1) 7 5 192 od5_12 nxrt5_12 = true := by kernel_rfl
def nxrt5_13 : List (Nat × Nat) := [(14, 13), (14, 13), (14, 13), (14, 13), (14, 13), (14, 13), (11, 1009), (14, 13), (14, 13), (14, 13), (14, 13), (14, 13), (14, 13), (14, 13), (11, 1009), (14, 13)]
theorem rt5_13_ok : rchkL (runR S1) 7 5 208 od5_13 nxrt5_13 = true := by kernel_rfl
def nxrt5_14 : List (Nat × Nat) := [(14, 13), (14, 13), (14, 13), (14, 13), (14, 13), (14, 13), (11, 1009), (14, 13), (14, 13), (14, 13), (14, 13), (14, 13), (14, 13), (14, 13), (11, 1009), (14, 13)]
theorem rt5_14_ok : rchkL (runR S1) 7 5 224 od5_14 nxrt5_14 = true := by kernel_rfl
def nxrt5_15 : List (Nat × Nat) := [(14, 13), (14, 13), (14, 13), (14, 13), (14, 13), (14, 13), (11, 1009), (14, 13), (14, 13), (14, 13), (14, 13), (14, 13), (14, 13), (14, 13), (11, 1009), (14, 13)]
theorem rt5_15_ok : rchkL (runR S1) 7 5 240 od5_15 nxrt5_15 = true := by kernel_rfl
def nxrt5 : List (List (Nat × Nat)) := [nxrt5_0, nxrt5_1, nxrt5_2, nxrt5_3, nxrt5_4, nxrt5_5, nxrt5_6, nxrt5_7, nxrt5_8, nxrt5_9, nxrt5_10, nxrt5_11, nxrt5_12, nxrt5_13, nxrt5_14, nxrt5_15]
theorem rt5_ok : rChkP (runR S1) 7 5 0 od5 nxrt5 := And.intro rt5_0_ok (And.intro rt5_1_ok (And.intro rt5_2_ok (And.intro rt5_3_ok (And.intro rt5_4_ok (And.intro rt5_5_ok (And.intro rt5_6_ok (And.intro rt5_7_ok (And.intro rt5_8_ok (And.intro rt5_9_ok (And.intro rt5_10_ok (And.intro rt5_11_ok (And.intro rt5_12_ok (And.intro rt5_13_ok (And.intro rt5_14_ok (And.intro rt5_15_ok (trivial))))))))))))))))
end Go.Proofs.YtpjcgimgiegehaaGreatDoor.Ex

/- What the reference's At answers: page 6. -/
namespace Go.Proofs.YtpjcgimgiegehaaGreatDoor.Ex
open Go.RowKit

def nxrt6_0 : List (Nat × Nat) := [(13, 12), (13, 12), (13, 12), (13, 12), (13, 12), (13, 12), (10, 1007), (13, 12), (13, 12), (13, 12), (13, 12), (13, 12), (13, 12), (13, 12), (10, 1007), (13, 12)]
theorem rt6_0_ok : rchkL (runR S1) 7 6 0 od6_0 nxrt6_0 = true := by kernel_rfl
def nxrt6_1 : List (Nat × Nat) := [(13, 12), (13, 12), (13, 12), (13, 12), (13, 12), (13, 12), (10, 1007), (13, 12), (13, 12), (13, 12), (13, 12), (13, 12), (13, 12), (13, 12), (10, 1007), (13, 12)]
theorem rt6_1_ok : rchkL (runR S1) 7 6 16 od6_1 nxrt6_1 = true := by kernel_rfl
def nxrt6_2 : List (Nat × Nat) := [(13, 12), (13, 12), (13, 12), (13, 12), (13, 12), (13, 12), (10, 1007), (13, 12), (13, 12), (13, 12), (13, 12), (13, 12), (13, 12), (13, 12), (10, 1007), (13, 12)]
theorem rt6_2_ok : rchkL (runR S1) 7 6 32 od6_2 nxrt6_2 = true := by kernel_rfl
def nxrt6_3 : List (Nat × Nat) := [(13, 12), (13, 12), (13, 12), (13, 12), (13, 12), (13, 12), (10, 1007), (13, 12), (13, 12), (13, 12), (13, 12), (13, 12), (13, 12), (13, 12), (10, 1007), (13, 12)]
theorem rt6_3_ok : rchkL (runR S1) 7 6 48 od6_3 nxrt6_3 = true := by kernel_rfl
def nxrt6_4 : List (Nat × Nat) := [(11, 1009), (11, 1009), (11, 1009), (11, 1009), (11, 1009), (11, 1009), (11, 1009), (11, 1009), (11, 1009), (11, 1009), (11, 1009), (11, 1009), (11, 1009), (11, 1009), (11, 1009), (11, 1009)]
theorem rt6_4_ok : rchkL (runR S1) 7 6 64 od6_4 nxrt6_4 = true := by kernel_rfl
def nxrt6_5 : List (Nat × Nat) := [(11, 1009), (11, 1009), (11, 1009), (11, 1009), (11, 1009), (11, 1009), (11, 1009), (11, 1009), (11, 1009), (11, 1009), (11, 1009), (11, 1009), (11, 1009), (11, 1009), (11, 1009), (11, 1009)]
theorem rt6_5_ok : rchkL (runR S1) 7 6 80 od6_5 nxrt6_5 = true := by kernel_rfl
def nxrt6_6 : List (Nat × Nat) := [(11, 1009), (11, 1009), (11, 1009), (11, 1009), (11, 1009), (11, 1009), (11, 1009), (11, 1009), (11, 1009), (11, 1009), (11, 1009), (11, 1009), (11, 1009), (11, 1009), (11, 1009), (11, 1009)]
theorem rt6_6_ok : rchkL (runR S1) 7 6 96 od6_6 nxrt6_6 = true := by kernel_rfl
def nxrt6_7 : List (Nat × Nat) := [(11, 1009), (11, 1009), (11, 1009), (11, 1009), (11, 1009), (11, 1009), (11, 1009), (11, 1009), (11, 1009), (11, 1009), (11, 1009), (11, 1009), (11, 1009), (11, 1009), (11, 1009), (11, 1009)]
theorem rt6_7_ok : rchkL (runR S1) 7 6 112 od6_7 nxrt6_7 = true := by kernel_rfl
def nxrt6_8 : List (Nat × Nat) := [(14, 13), (14, 13), (14, 13), (14, 13), (14, 13), (14, 13), (11, 1009), (14, 13), (14, 13), (14, 13), (14, 13), (14, 13), (14, 13), (14, 13), (11, 1009), (14, 13)]
theorem rt6_8_ok : rchkL (runR S1) 7 6 128 od6_8 nxrt6_8 = true := by kernel_rfl
def nxrt6_9 : List (Nat × Nat) := [(14, 13), (14, 13), (14, 13), (14, 13), (14, 13), (14, 13), (11, 1009), (14, 13), (14, 13), (14, 13), (14, 13), (14, 13), (14, 13), (14, 13), (11, 1009), (14, 13)]
theorem rt6_9_ok : rchkL (runR S1) 7 6 144 od6_9 nxrt6_9 = true := by kernel_rfl
def nxrt6_10 : List (Nat × Nat) := [(14, 13), (14, 13), (14, 13), (14, 13), (14, 13), (14, 13), (11, 1009), (14, 13), (14, 13), (14, 13), (14, 13), (14, 13), (14, 13), (14, 13), (11, 1009), (14, 13)]
theorem rt6_10_ok : rchkL (runR S1) 7 6 160 od6_10 nxrt6_10 = true := by kernel_rfl
def nxrt6_11 : List (Nat × Nat) := [(14, 13), (14, 13), (14, 13), (14, 13), (14, 13), (14, 13), (11, 1009), (14, 13), (14, 13), (14, 13), (14, 13), (14, 13), (14, 13), (14, 13), (11, 1009), (14, 13)]
theorem rt6_11_ok : rchkL (runR S1) 7 6 176 od6_11 nxrt6_11 = true := by kernel_rfl
def nxrt6_12 : List (Nat × Nat) := [(14, 13), (14, 13), (14, 13), (14, 13), (14, 13), (14, 13), (11, 1009), (14, 13), (14, 13), (14, 13), (14, 13), (14, 13), (14, 13), (14, 13), (11, 1009), (14, 13)]
theorem rt6_12_ok : rchkL (runR S1) 7 6 192 od6_12 nxrt6_12 = true := by kernel_rfl
def nxrt6_13 : List (Nat × Nat) := [(14, 13), (14, 13), (14, 13), (14, 13), (14, 13), (14, 13), (11, 1009), (14, 13), (14, 13), (14, 13), (14, 13), (14, 13), (14, 13), (14, 13), (11, 1009), (14, 13)]
theorem rt6_13_ok : rchkL (runR S1) 7 6 208 od6_13 nxrt6_13 = true := by kernel_rfl
def nxrt6_14 : List (Nat × Nat) := [(14, 13), (14, 13), (14, 13), (14, 13), (14, 13), (14, 13), (11, 1009), (14, 13), (14, 13), (14, 13), (14, 13), (14, 13), (14, 13), (14, 13), (11, 1009), (14, 13)]
theorem rt6_14_ok : rchkL (runR S1) 7 6 224 od6_14 nxrt6_14 = true := by kernel_rfl
def nxrt6_15 : List (Nat × Nat) := [(14, 13), (14, 13), (14, 13), (14, 13), (14, 13), (14, 13), (11, 1009), (14, 13), (14, 13), (14, 13), (14, 13), (14, 13), (14, 13), (14, 13), (11, 1009), (14, 13)]
theorem rt6_15_ok : rchkL (runR S1) 7 6 240 od6_15 nxrt6_15 = true := by kernel_rfl
def nxrt6 : List (List (Nat × Nat)) := [nxrt6_0, nxrt6_1, nxrt6_2, nxrt6_3, nxrt6_4, nxrt6_5, nxrt6_6, nxrt6_7, nxrt6_8, nxrt6_9, nxrt6_10, nxrt6_11, nxrt6_12, nxrt6_13, nxrt6_14, nxrt6_15]
theorem rt6_ok : rChkP (runR S1) 7 6 0 od6 nxrt6 := And.intro rt6_0_ok (And.intro rt6_1_ok (And.intro rt6_2_ok (And.intro rt6_3_ok (And.intro rt6_4_ok (And.intro rt6_5_ok (And.intro rt6_6_ok (And.intro rt6_7_ok (And.intro rt6_8_ok (And.intro rt6_9_ok (And.intro rt6_10_ok (And.intro rt6_11_ok (And.intro rt6_12_ok (And.intro rt6_13_ok (And.intro rt6_14_ok (And.intro rt6_15_ok (trivial))))))))))))))))
end Go.Proofs.YtpjcgimgiegehaaGreatDoor.Ex
