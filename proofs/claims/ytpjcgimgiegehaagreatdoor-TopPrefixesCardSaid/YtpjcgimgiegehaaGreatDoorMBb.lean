/- Parts of the proof of TopPrefixes, in one text: ExBs3, ExBs4. -/
import Derived.Test.YtpjcgimgiegehaaGreatDoorMK4
/- encode.Bytes by shapes of entries, part 3. -/
namespace Go.Proofs.YtpjcgimgiegehaaGreatDoor.Ex
open Go.RowKit

theorem sh0_2 : ShOk 0 [76, 68] [4, 1] [] := fun _ _ _ _ _ _ => ⟨by kernel_rfl, by kernel_rfl, by kernel_rfl, by kernel_rfl⟩
theorem sh0_10 : ShOk 0 [76, 68] [1, 4] [] := fun _ _ _ _ _ _ => ⟨by kernel_rfl, by kernel_rfl, by kernel_rfl, by kernel_rfl⟩
theorem sh0_18 : ShOk 0 [76, 68] [7, 3] [119] := fun _ _ _ _ _ _ => ⟨by kernel_rfl, by kernel_rfl, by kernel_rfl, by kernel_rfl⟩
theorem sh0_26 : ShOk 0 [83, 67, 70] [] [] := fun _ _ _ _ _ _ => ⟨by kernel_rfl, by kernel_rfl, by kernel_rfl, by kernel_rfl⟩
theorem sh0_34 : ShOk 0 [65, 68, 67] [1, 4] [] := fun _ _ _ _ _ _ => ⟨by kernel_rfl, by kernel_rfl, by kernel_rfl, by kernel_rfl⟩
theorem sh0_42 : ShOk 0 [88, 79, 82] [4] [] := fun _ _ _ _ _ _ => ⟨by kernel_rfl, by kernel_rfl, by kernel_rfl, by kernel_rfl⟩
theorem sh0_50 : ShOk 0 [74, 80] [6] [119] := fun _ _ _ _ _ _ => ⟨by kernel_rfl, by kernel_rfl, by kernel_rfl, by kernel_rfl⟩
theorem sh0_58 : ShOk 0 [79, 85, 84] [7, 1] [110] := fun _ _ _ _ _ _ => ⟨by kernel_rfl, by kernel_rfl, by kernel_rfl, by kernel_rfl⟩
theorem sh0_66 : ShOk 0 [88, 79, 82] [6] [110] := fun _ _ _ _ _ _ => ⟨by kernel_rfl, by kernel_rfl, by kernel_rfl, by kernel_rfl⟩
theorem sh1_2 : ShOk 1 [82, 82, 67] [1] [] := fun _ _ _ _ _ _ => ⟨by kernel_rfl, by kernel_rfl, by kernel_rfl, by kernel_rfl⟩
theorem sh1_10 : ShOk 1 [83, 82, 65] [1] [] := fun _ _ _ _ _ _ => ⟨by kernel_rfl, by kernel_rfl, by kernel_rfl, by kernel_rfl⟩
theorem sh1_18 : ShOk 1 [82, 69, 83] [6, 1] [] := fun _ _ _ _ _ _ => ⟨by kernel_rfl, by kernel_rfl, by kernel_rfl, by kernel_rfl⟩
theorem sh2_4 : ShOk 2 [78, 69, 71] [] [] := fun _ _ _ _ _ _ => ⟨by kernel_rfl, by kernel_rfl, by kernel_rfl, by kernel_rfl⟩
theorem sh2_12 : ShOk 2 [82, 82, 68] [] [] := fun _ _ _ _ _ _ => ⟨by kernel_rfl, by kernel_rfl, by kernel_rfl, by kernel_rfl⟩
theorem sh2_20 : ShOk 2 [76, 68, 68] [] [] := fun _ _ _ _ _ _ => ⟨by kernel_rfl, by kernel_rfl, by kernel_rfl, by kernel_rfl⟩
theorem sh2_28 : ShOk 2 [76, 68, 68, 82] [] [] := fun _ _ _ _ _ _ => ⟨by kernel_rfl, by kernel_rfl, by kernel_rfl, by kernel_rfl⟩
theorem sh3_4 : ShOk 3 [73, 78, 67] [2] [] := fun _ _ _ _ _ _ => ⟨by kernel_rfl, by kernel_rfl, by kernel_rfl, by kernel_rfl⟩
theorem sh3_12 : ShOk 3 [76, 68] [1, 2] [] := fun _ _ _ _ _ _ => ⟨by kernel_rfl, by kernel_rfl, by kernel_rfl, by kernel_rfl⟩
theorem sh3_20 : ShOk 3 [65, 68, 67] [1, 5] [100] := fun _ _ _ _ _ _ => ⟨by kernel_rfl, by kernel_rfl, by kernel_rfl, by kernel_rfl⟩
theorem sh3_28 : ShOk 3 [88, 79, 82] [5] [100] := fun _ _ _ _ _ _ => ⟨by kernel_rfl, by kernel_rfl, by kernel_rfl, by kernel_rfl⟩
theorem sh3_36 : ShOk 3 [74, 80] [4] [] := fun _ _ _ _ _ _ => ⟨by kernel_rfl, by kernel_rfl, by kernel_rfl, by kernel_rfl⟩
theorem sh4_6 : ShOk 4 [76, 68] [2, 6] [110] := fun _ _ _ _ _ _ => ⟨by kernel_rfl, by kernel_rfl, by kernel_rfl, by kernel_rfl⟩
theorem sh4_14 : ShOk 4 [76, 68] [2, 1] [] := fun _ _ _ _ _ _ => ⟨by kernel_rfl, by kernel_rfl, by kernel_rfl, by kernel_rfl⟩
theorem sh4_22 : ShOk 4 [83, 85, 66] [5] [100] := fun _ _ _ _ _ _ => ⟨by kernel_rfl, by kernel_rfl, by kernel_rfl, by kernel_rfl⟩
theorem sh4_30 : ShOk 4 [79, 82] [5] [100] := fun _ _ _ _ _ _ => ⟨by kernel_rfl, by kernel_rfl, by kernel_rfl, by kernel_rfl⟩
theorem sh5_0 : ShOk 5 [82, 76, 67] [5, 1] [100] := fun _ _ _ _ _ _ => ⟨by kernel_rfl, by kernel_rfl, by kernel_rfl, by kernel_rfl⟩
theorem sh5_8 : ShOk 5 [83, 76, 65] [5, 1] [100] := fun _ _ _ _ _ _ => ⟨by kernel_rfl, by kernel_rfl, by kernel_rfl, by kernel_rfl⟩
theorem sh5_16 : ShOk 5 [66, 73, 84] [6, 5] [100] := fun _ _ _ _ _ _ => ⟨by kernel_rfl, by kernel_rfl, by kernel_rfl, by kernel_rfl⟩
theorem sh6_3 : ShOk 6 [82, 82, 67] [5] [100] := fun _ _ _ _ _ _ => ⟨by kernel_rfl, by kernel_rfl, by kernel_rfl, by kernel_rfl⟩
theorem sh6_11 : ShOk 6 [83, 82, 65] [5] [100] := fun _ _ _ _ _ _ => ⟨by kernel_rfl, by kernel_rfl, by kernel_rfl, by kernel_rfl⟩
theorem sh6_19 : ShOk 6 [83, 69, 84] [6, 5, 1] [100] := fun _ _ _ _ _ _ => ⟨by kernel_rfl, by kernel_rfl, by kernel_rfl, by kernel_rfl⟩
end Go.Proofs.YtpjcgimgiegehaaGreatDoor.Ex

/- encode.Bytes by shapes of entries, part 4. -/
namespace Go.Proofs.YtpjcgimgiegehaaGreatDoor.Ex
open Go.RowKit

theorem sh0_3 : ShOk 0 [73, 78, 67] [3] [] := fun _ _ _ _ _ _ => ⟨by kernel_rfl, by kernel_rfl, by kernel_rfl, by kernel_rfl⟩
theorem sh0_11 : ShOk 0 [68, 69, 67] [3] [] := fun _ _ _ _ _ _ => ⟨by kernel_rfl, by kernel_rfl, by kernel_rfl, by kernel_rfl⟩
theorem sh0_19 : ShOk 0 [68, 65, 65] [] [] := fun _ _ _ _ _ _ => ⟨by kernel_rfl, by kernel_rfl, by kernel_rfl, by kernel_rfl⟩
theorem sh0_27 : ShOk 0 [76, 68] [1, 7] [119] := fun _ _ _ _ _ _ => ⟨by kernel_rfl, by kernel_rfl, by kernel_rfl, by kernel_rfl⟩
theorem sh0_35 : ShOk 0 [83, 85, 66] [1] [] := fun _ _ _ _ _ _ => ⟨by kernel_rfl, by kernel_rfl, by kernel_rfl, by kernel_rfl⟩
theorem sh0_43 : ShOk 0 [79, 82] [1] [] := fun _ _ _ _ _ _ => ⟨by kernel_rfl, by kernel_rfl, by kernel_rfl, by kernel_rfl⟩
theorem sh0_51 : ShOk 0 [67, 65, 76, 76] [8, 6] [119] := fun _ _ _ _ _ _ => ⟨by kernel_rfl, by kernel_rfl, by kernel_rfl, by kernel_rfl⟩
theorem sh0_59 : ShOk 0 [83, 85, 66] [6] [110] := fun _ _ _ _ _ _ => ⟨by kernel_rfl, by kernel_rfl, by kernel_rfl, by kernel_rfl⟩
theorem sh0_67 : ShOk 0 [68, 73] [] [] := fun _ _ _ _ _ _ => ⟨by kernel_rfl, by kernel_rfl, by kernel_rfl, by kernel_rfl⟩
theorem sh1_3 : ShOk 1 [82, 82, 67] [4] [] := fun _ _ _ _ _ _ => ⟨by kernel_rfl, by kernel_rfl, by kernel_rfl, by kernel_rfl⟩
theorem sh1_11 : ShOk 1 [83, 82, 65] [4] [] := fun _ _ _ _ _ _ => ⟨by kernel_rfl, by kernel_rfl, by kernel_rfl, by kernel_rfl⟩
theorem sh1_19 : ShOk 1 [82, 69, 83] [6, 4] [] := fun _ _ _ _ _ _ => ⟨by kernel_rfl, by kernel_rfl, by kernel_rfl, by kernel_rfl⟩
theorem sh2_5 : ShOk 2 [82, 69, 84, 78] [] [] := fun _ _ _ _ _ _ => ⟨by kernel_rfl, by kernel_rfl, by kernel_rfl, by kernel_rfl⟩
theorem sh2_13 : ShOk 2 [82, 76, 68] [] [] := fun _ _ _ _ _ _ => ⟨by kernel_rfl, by kernel_rfl, by kernel_rfl, by kernel_rfl⟩
theorem sh2_21 : ShOk 2 [67, 80, 68] [] [] := fun _ _ _ _ _ _ => ⟨by kernel_rfl, by kernel_rfl, by kernel_rfl, by kernel_rfl⟩
theorem sh2_29 : ShOk 2 [67, 80, 68, 82] [] [] := fun _ _ _ _ _ _ => ⟨by kernel_rfl, by kernel_rfl, by kernel_rfl, by kernel_rfl⟩
theorem sh3_5 : ShOk 3 [68, 69, 67] [2] [] := fun _ _ _ _ _ _ => ⟨by kernel_rfl, by kernel_rfl, by kernel_rfl, by kernel_rfl⟩
theorem sh3_13 : ShOk 3 [76, 68] [1, 5] [100] := fun _ _ _ _ _ _ => ⟨by kernel_rfl, by kernel_rfl, by kernel_rfl, by kernel_rfl⟩
theorem sh3_21 : ShOk 3 [83, 85, 66] [2] [] := fun _ _ _ _ _ _ => ⟨by kernel_rfl, by kernel_rfl, by kernel_rfl, by kernel_rfl⟩
theorem sh3_29 : ShOk 3 [79, 82] [2] [] := fun _ _ _ _ _ _ => ⟨by kernel_rfl, by kernel_rfl, by kernel_rfl, by kernel_rfl⟩
theorem sh3_37 : ShOk 3 [76, 68] [3, 3] [] := fun _ _ _ _ _ _ => ⟨by kernel_rfl, by kernel_rfl, by kernel_rfl, by kernel_rfl⟩
theorem sh4_7 : ShOk 4 [76, 68] [3, 7] [119] := fun _ _ _ _ _ _ => ⟨by kernel_rfl, by kernel_rfl, by kernel_rfl, by kernel_rfl⟩
theorem sh4_15 : ShOk 4 [76, 68] [2, 2] [] := fun _ _ _ _ _ _ => ⟨by kernel_rfl, by kernel_rfl, by kernel_rfl, by kernel_rfl⟩
theorem sh4_23 : ShOk 4 [83, 66, 67] [1, 2] [] := fun _ _ _ _ _ _ => ⟨by kernel_rfl, by kernel_rfl, by kernel_rfl, by kernel_rfl⟩
theorem sh4_31 : ShOk 4 [67, 80] [2] [] := fun _ _ _ _ _ _ => ⟨by kernel_rfl, by kernel_rfl, by kernel_rfl, by kernel_rfl⟩
theorem sh5_1 : ShOk 5 [82, 76, 67] [5] [100] := fun _ _ _ _ _ _ => ⟨by kernel_rfl, by kernel_rfl, by kernel_rfl, by kernel_rfl⟩
theorem sh5_9 : ShOk 5 [83, 76, 65] [5] [100] := fun _ _ _ _ _ _ => ⟨by kernel_rfl, by kernel_rfl, by kernel_rfl, by kernel_rfl⟩
theorem sh5_17 : ShOk 5 [82, 69, 83] [6, 5, 1] [100] := fun _ _ _ _ _ _ => ⟨by kernel_rfl, by kernel_rfl, by kernel_rfl, by kernel_rfl⟩
theorem sh6_4 : ShOk 6 [82, 76] [5, 1] [100] := fun _ _ _ _ _ _ => ⟨by kernel_rfl, by kernel_rfl, by kernel_rfl, by kernel_rfl⟩
theorem sh6_12 : ShOk 6 [83, 76, 76] [5, 1] [100] := fun _ _ _ _ _ _ => ⟨by kernel_rfl, by kernel_rfl, by kernel_rfl, by kernel_rfl⟩
theorem sh6_20 : ShOk 6 [83, 69, 84] [6, 5] [100] := fun _ _ _ _ _ _ => ⟨by kernel_rfl, by kernel_rfl, by kernel_rfl, by kernel_rfl⟩
end Go.Proofs.YtpjcgimgiegehaaGreatDoor.Ex
