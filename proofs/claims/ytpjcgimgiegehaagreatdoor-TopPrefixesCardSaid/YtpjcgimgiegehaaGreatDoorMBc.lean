/- Parts of the proof of TopPrefixes, in one text: ExBs5, ExBs6. -/
import Derived.Test.YtpjcgimgiegehaaGreatDoorMK4
/- encode.Bytes by shapes of entries, part 5. -/
namespace Go.Proofs.YtpjcgimgiegehaaGreatDoor.Ex
open Go.RowKit

theorem sh0_4 : ShOk 0 [73, 78, 67] [1] [] := fun _ _ _ _ _ _ => ⟨by kernel_rfl, by kernel_rfl, by kernel_rfl, by kernel_rfl⟩
theorem sh0_12 : ShOk 0 [82, 82, 67, 65] [] [] := fun _ _ _ _ _ _ => ⟨by kernel_rfl, by kernel_rfl, by kernel_rfl, by kernel_rfl⟩
theorem sh0_20 : ShOk 0 [76, 68] [3, 7] [119] := fun _ _ _ _ _ _ => ⟨by kernel_rfl, by kernel_rfl, by kernel_rfl, by kernel_rfl⟩
theorem sh0_28 : ShOk 0 [67, 67, 70] [] [] := fun _ _ _ _ _ _ => ⟨by kernel_rfl, by kernel_rfl, by kernel_rfl, by kernel_rfl⟩
theorem sh0_36 : ShOk 0 [83, 85, 66] [4] [] := fun _ _ _ _ _ _ => ⟨by kernel_rfl, by kernel_rfl, by kernel_rfl, by kernel_rfl⟩
theorem sh0_44 : ShOk 0 [79, 82] [4] [] := fun _ _ _ _ _ _ => ⟨by kernel_rfl, by kernel_rfl, by kernel_rfl, by kernel_rfl⟩
theorem sh0_52 : ShOk 0 [80, 85, 83, 72] [3] [] := fun _ _ _ _ _ _ => ⟨by kernel_rfl, by kernel_rfl, by kernel_rfl, by kernel_rfl⟩
theorem sh0_60 : ShOk 0 [69, 88, 88] [] [] := fun _ _ _ _ _ _ => ⟨by kernel_rfl, by kernel_rfl, by kernel_rfl, by kernel_rfl⟩
theorem sh0_68 : ShOk 0 [79, 82] [6] [110] := fun _ _ _ _ _ _ => ⟨by kernel_rfl, by kernel_rfl, by kernel_rfl, by kernel_rfl⟩
theorem sh1_4 : ShOk 1 [82, 76] [1] [] := fun _ _ _ _ _ _ => ⟨by kernel_rfl, by kernel_rfl, by kernel_rfl, by kernel_rfl⟩
theorem sh1_12 : ShOk 1 [83, 76, 76] [1] [] := fun _ _ _ _ _ _ => ⟨by kernel_rfl, by kernel_rfl, by kernel_rfl, by kernel_rfl⟩
theorem sh1_20 : ShOk 1 [83, 69, 84] [6, 1] [] := fun _ _ _ _ _ _ => ⟨by kernel_rfl, by kernel_rfl, by kernel_rfl, by kernel_rfl⟩
theorem sh2_6 : ShOk 2 [73, 77] [6] [] := fun _ _ _ _ _ _ => ⟨by kernel_rfl, by kernel_rfl, by kernel_rfl, by kernel_rfl⟩
theorem sh2_14 : ShOk 2 [73, 78] [4] [] := fun _ _ _ _ _ _ => ⟨by kernel_rfl, by kernel_rfl, by kernel_rfl, by kernel_rfl⟩
theorem sh2_22 : ShOk 2 [73, 78, 68] [] [] := fun _ _ _ _ _ _ => ⟨by kernel_rfl, by kernel_rfl, by kernel_rfl, by kernel_rfl⟩
theorem sh2_30 : ShOk 2 [73, 78, 68, 82] [] [] := fun _ _ _ _ _ _ => ⟨by kernel_rfl, by kernel_rfl, by kernel_rfl, by kernel_rfl⟩
theorem sh3_6 : ShOk 3 [76, 68] [2, 6] [110] := fun _ _ _ _ _ _ => ⟨by kernel_rfl, by kernel_rfl, by kernel_rfl, by kernel_rfl⟩
theorem sh3_14 : ShOk 3 [76, 68] [2, 1] [] := fun _ _ _ _ _ _ => ⟨by kernel_rfl, by kernel_rfl, by kernel_rfl, by kernel_rfl⟩
theorem sh3_22 : ShOk 3 [83, 85, 66] [5] [100] := fun _ _ _ _ _ _ => ⟨by kernel_rfl, by kernel_rfl, by kernel_rfl, by kernel_rfl⟩
theorem sh3_30 : ShOk 3 [79, 82] [5] [100] := fun _ _ _ _ _ _ => ⟨by kernel_rfl, by kernel_rfl, by kernel_rfl, by kernel_rfl⟩
theorem sh4_0 : ShOk 4 [65, 68, 68] [3, 3] [] := fun _ _ _ _ _ _ => ⟨by kernel_rfl, by kernel_rfl, by kernel_rfl, by kernel_rfl⟩
theorem sh4_8 : ShOk 4 [68, 69, 67] [3] [] := fun _ _ _ _ _ _ => ⟨by kernel_rfl, by kernel_rfl, by kernel_rfl, by kernel_rfl⟩
theorem sh4_16 : ShOk 4 [76, 68] [5, 1] [100] := fun _ _ _ _ _ _ => ⟨by kernel_rfl, by kernel_rfl, by kernel_rfl, by kernel_rfl⟩
theorem sh4_24 : ShOk 4 [83, 66, 67] [1, 5] [100] := fun _ _ _ _ _ _ => ⟨by kernel_rfl, by kernel_rfl, by kernel_rfl, by kernel_rfl⟩
theorem sh4_32 : ShOk 4 [67, 80] [5] [100] := fun _ _ _ _ _ _ => ⟨by kernel_rfl, by kernel_rfl, by kernel_rfl, by kernel_rfl⟩
theorem sh5_2 : ShOk 5 [82, 82, 67] [5, 1] [100] := fun _ _ _ _ _ _ => ⟨by kernel_rfl, by kernel_rfl, by kernel_rfl, by kernel_rfl⟩
theorem sh5_10 : ShOk 5 [83, 82, 65] [5, 1] [100] := fun _ _ _ _ _ _ => ⟨by kernel_rfl, by kernel_rfl, by kernel_rfl, by kernel_rfl⟩
theorem sh5_18 : ShOk 5 [82, 69, 83] [6, 5] [100] := fun _ _ _ _ _ _ => ⟨by kernel_rfl, by kernel_rfl, by kernel_rfl, by kernel_rfl⟩
theorem sh6_5 : ShOk 6 [82, 76] [5] [100] := fun _ _ _ _ _ _ => ⟨by kernel_rfl, by kernel_rfl, by kernel_rfl, by kernel_rfl⟩
theorem sh6_13 : ShOk 6 [83, 76, 76] [5] [100] := fun _ _ _ _ _ _ => ⟨by kernel_rfl, by kernel_rfl, by kernel_rfl, by kernel_rfl⟩
end Go.Proofs.YtpjcgimgiegehaaGreatDoor.Ex

/- encode.Bytes by shapes of entries, part 6. -/
namespace Go.Proofs.YtpjcgimgiegehaaGreatDoor.Ex
open Go.RowKit

theorem sh0_5 : ShOk 0 [68, 69, 67] [1] [] := fun _ _ _ _ _ _ => ⟨by kernel_rfl, by kernel_rfl, by kernel_rfl, by kernel_rfl⟩
theorem sh0_13 : ShOk 0 [68, 74, 78, 90] [10] [101] := fun _ _ _ _ _ _ => ⟨by kernel_rfl, by kernel_rfl, by kernel_rfl, by kernel_rfl⟩
theorem sh0_21 : ShOk 0 [67, 80, 76] [] [] := fun _ _ _ _ _ _ => ⟨by kernel_rfl, by kernel_rfl, by kernel_rfl, by kernel_rfl⟩
theorem sh0_29 : ShOk 0 [76, 68] [1, 1] [] := fun _ _ _ _ _ _ => ⟨by kernel_rfl, by kernel_rfl, by kernel_rfl, by kernel_rfl⟩
theorem sh0_37 : ShOk 0 [83, 66, 67] [1, 1] [] := fun _ _ _ _ _ _ => ⟨by kernel_rfl, by kernel_rfl, by kernel_rfl, by kernel_rfl⟩
theorem sh0_45 : ShOk 0 [67, 80] [1] [] := fun _ _ _ _ _ _ => ⟨by kernel_rfl, by kernel_rfl, by kernel_rfl, by kernel_rfl⟩
theorem sh0_53 : ShOk 0 [65, 68, 68] [1, 6] [110] := fun _ _ _ _ _ _ => ⟨by kernel_rfl, by kernel_rfl, by kernel_rfl, by kernel_rfl⟩
theorem sh0_61 : ShOk 0 [73, 78] [1, 7] [110] := fun _ _ _ _ _ _ => ⟨by kernel_rfl, by kernel_rfl, by kernel_rfl, by kernel_rfl⟩
theorem sh0_69 : ShOk 0 [76, 68] [3, 3] [] := fun _ _ _ _ _ _ => ⟨by kernel_rfl, by kernel_rfl, by kernel_rfl, by kernel_rfl⟩
theorem sh1_5 : ShOk 1 [82, 76] [4] [] := fun _ _ _ _ _ _ => ⟨by kernel_rfl, by kernel_rfl, by kernel_rfl, by kernel_rfl⟩
theorem sh1_13 : ShOk 1 [83, 76, 76] [4] [] := fun _ _ _ _ _ _ => ⟨by kernel_rfl, by kernel_rfl, by kernel_rfl, by kernel_rfl⟩
theorem sh1_21 : ShOk 1 [83, 69, 84] [6, 4] [] := fun _ _ _ _ _ _ => ⟨by kernel_rfl, by kernel_rfl, by kernel_rfl, by kernel_rfl⟩
theorem sh2_7 : ShOk 2 [76, 68] [9, 1] [] := fun _ _ _ _ _ _ => ⟨by kernel_rfl, by kernel_rfl, by kernel_rfl, by kernel_rfl⟩
theorem sh2_15 : ShOk 2 [79, 85, 84] [4, 6] [] := fun _ _ _ _ _ _ => ⟨by kernel_rfl, by kernel_rfl, by kernel_rfl, by kernel_rfl⟩
theorem sh2_23 : ShOk 2 [79, 85, 84, 68] [] [] := fun _ _ _ _ _ _ => ⟨by kernel_rfl, by kernel_rfl, by kernel_rfl, by kernel_rfl⟩
theorem sh2_31 : ShOk 2 [79, 84, 68, 82] [] [] := fun _ _ _ _ _ _ => ⟨by kernel_rfl, by kernel_rfl, by kernel_rfl, by kernel_rfl⟩
theorem sh3_7 : ShOk 3 [76, 68] [3, 7] [119] := fun _ _ _ _ _ _ => ⟨by kernel_rfl, by kernel_rfl, by kernel_rfl, by kernel_rfl⟩
theorem sh3_15 : ShOk 3 [76, 68] [2, 2] [] := fun _ _ _ _ _ _ => ⟨by kernel_rfl, by kernel_rfl, by kernel_rfl, by kernel_rfl⟩
theorem sh3_23 : ShOk 3 [83, 66, 67] [1, 2] [] := fun _ _ _ _ _ _ => ⟨by kernel_rfl, by kernel_rfl, by kernel_rfl, by kernel_rfl⟩
theorem sh3_31 : ShOk 3 [67, 80] [2] [] := fun _ _ _ _ _ _ => ⟨by kernel_rfl, by kernel_rfl, by kernel_rfl, by kernel_rfl⟩
theorem sh4_1 : ShOk 4 [76, 68] [3, 6] [119] := fun _ _ _ _ _ _ => ⟨by kernel_rfl, by kernel_rfl, by kernel_rfl, by kernel_rfl⟩
theorem sh4_9 : ShOk 4 [73, 78, 67] [5] [100] := fun _ _ _ _ _ _ => ⟨by kernel_rfl, by kernel_rfl, by kernel_rfl, by kernel_rfl⟩
theorem sh4_17 : ShOk 4 [65, 68, 68] [1, 2] [] := fun _ _ _ _ _ _ => ⟨by kernel_rfl, by kernel_rfl, by kernel_rfl, by kernel_rfl⟩
theorem sh4_25 : ShOk 4 [65, 78, 68] [2] [] := fun _ _ _ _ _ _ => ⟨by kernel_rfl, by kernel_rfl, by kernel_rfl, by kernel_rfl⟩
theorem sh4_33 : ShOk 4 [80, 79, 80] [3] [] := fun _ _ _ _ _ _ => ⟨by kernel_rfl, by kernel_rfl, by kernel_rfl, by kernel_rfl⟩
theorem sh5_3 : ShOk 5 [82, 82, 67] [5] [100] := fun _ _ _ _ _ _ => ⟨by kernel_rfl, by kernel_rfl, by kernel_rfl, by kernel_rfl⟩
theorem sh5_11 : ShOk 5 [83, 82, 65] [5] [100] := fun _ _ _ _ _ _ => ⟨by kernel_rfl, by kernel_rfl, by kernel_rfl, by kernel_rfl⟩
theorem sh5_19 : ShOk 5 [83, 69, 84] [6, 5, 1] [100] := fun _ _ _ _ _ _ => ⟨by kernel_rfl, by kernel_rfl, by kernel_rfl, by kernel_rfl⟩
theorem sh6_6 : ShOk 6 [82, 82] [5, 1] [100] := fun _ _ _ _ _ _ => ⟨by kernel_rfl, by kernel_rfl, by kernel_rfl, by kernel_rfl⟩
theorem sh6_14 : ShOk 6 [83, 82, 76] [5, 1] [100] := fun _ _ _ _ _ _ => ⟨by kernel_rfl, by kernel_rfl, by kernel_rfl, by kernel_rfl⟩
end Go.Proofs.YtpjcgimgiegehaaGreatDoor.Ex
