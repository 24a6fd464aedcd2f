/- Parts of the proof of TopPrefixes, in one text: ExBs7, ExBs8. -/
import Derived.Test.YtpjcgimgiegehaaGreatDoorMK4
/- encode.Bytes by shapes of entries, part 7. -/
namespace Go.Proofs.YtpjcgimgiegehaaGreatDoor.Ex
open Go.RowKit

theorem sh0_6 : ShOk 0 [76, 68] [1, 6] [110] := fun _ _ _ _ _ _ => ⟨by kernel_rfl, by kernel_rfl, by kernel_rfl, by kernel_rfl⟩
theorem sh0_14 : ShOk 0 [82, 76, 65] [] [] := fun _ _ _ _ _ _ => ⟨by kernel_rfl, by kernel_rfl, by kernel_rfl, by kernel_rfl⟩
theorem sh0_22 : ShOk 0 [76, 68] [7, 1] [119] := fun _ _ _ _ _ _ => ⟨by kernel_rfl, by kernel_rfl, by kernel_rfl, by kernel_rfl⟩
theorem sh0_30 : ShOk 0 [72, 65, 76, 84] [] [] := fun _ _ _ _ _ _ => ⟨by kernel_rfl, by kernel_rfl, by kernel_rfl, by kernel_rfl⟩
theorem sh0_38 : ShOk 0 [83, 66, 67] [1, 4] [] := fun _ _ _ _ _ _ => ⟨by kernel_rfl, by kernel_rfl, by kernel_rfl, by kernel_rfl⟩
theorem sh0_46 : ShOk 0 [67, 80] [4] [] := fun _ _ _ _ _ _ => ⟨by kernel_rfl, by kernel_rfl, by kernel_rfl, by kernel_rfl⟩
theorem sh0_54 : ShOk 0 [82, 83, 84] [6] [] := fun _ _ _ _ _ _ => ⟨by kernel_rfl, by kernel_rfl, by kernel_rfl, by kernel_rfl⟩
theorem sh0_62 : ShOk 0 [83, 66, 67] [1, 6] [110] := fun _ _ _ _ _ _ => ⟨by kernel_rfl, by kernel_rfl, by kernel_rfl, by kernel_rfl⟩
theorem sh0_70 : ShOk 0 [69, 73] [] [] := fun _ _ _ _ _ _ => ⟨by kernel_rfl, by kernel_rfl, by kernel_rfl, by kernel_rfl⟩
theorem sh1_6 : ShOk 1 [82, 82] [1] [] := fun _ _ _ _ _ _ => ⟨by kernel_rfl, by kernel_rfl, by kernel_rfl, by kernel_rfl⟩
theorem sh1_14 : ShOk 1 [83, 82, 76] [1] [] := fun _ _ _ _ _ _ => ⟨by kernel_rfl, by kernel_rfl, by kernel_rfl, by kernel_rfl⟩
theorem sh2_0 : ShOk 2 [73, 78] [1, 4] [] := fun _ _ _ _ _ _ => ⟨by kernel_rfl, by kernel_rfl, by kernel_rfl, by kernel_rfl⟩
theorem sh2_8 : ShOk 2 [65, 68, 67] [3, 3] [] := fun _ _ _ _ _ _ => ⟨by kernel_rfl, by kernel_rfl, by kernel_rfl, by kernel_rfl⟩
theorem sh2_16 : ShOk 2 [76, 68, 73] [] [] := fun _ _ _ _ _ _ => ⟨by kernel_rfl, by kernel_rfl, by kernel_rfl, by kernel_rfl⟩
theorem sh2_24 : ShOk 2 [76, 68, 73, 82] [] [] := fun _ _ _ _ _ _ => ⟨by kernel_rfl, by kernel_rfl, by kernel_rfl, by kernel_rfl⟩
theorem sh3_0 : ShOk 3 [65, 68, 68] [3, 3] [] := fun _ _ _ _ _ _ => ⟨by kernel_rfl, by kernel_rfl, by kernel_rfl, by kernel_rfl⟩
theorem sh3_8 : ShOk 3 [68, 69, 67] [3] [] := fun _ _ _ _ _ _ => ⟨by kernel_rfl, by kernel_rfl, by kernel_rfl, by kernel_rfl⟩
theorem sh3_16 : ShOk 3 [76, 68] [5, 1] [100] := fun _ _ _ _ _ _ => ⟨by kernel_rfl, by kernel_rfl, by kernel_rfl, by kernel_rfl⟩
theorem sh3_24 : ShOk 3 [83, 66, 67] [1, 5] [100] := fun _ _ _ _ _ _ => ⟨by kernel_rfl, by kernel_rfl, by kernel_rfl, by kernel_rfl⟩
theorem sh3_32 : ShOk 3 [67, 80] [5] [100] := fun _ _ _ _ _ _ => ⟨by kernel_rfl, by kernel_rfl, by kernel_rfl, by kernel_rfl⟩
theorem sh4_2 : ShOk 4 [76, 68] [7, 3] [119] := fun _ _ _ _ _ _ => ⟨by kernel_rfl, by kernel_rfl, by kernel_rfl, by kernel_rfl⟩
theorem sh4_10 : ShOk 4 [68, 69, 67] [5] [100] := fun _ _ _ _ _ _ => ⟨by kernel_rfl, by kernel_rfl, by kernel_rfl, by kernel_rfl⟩
theorem sh4_18 : ShOk 4 [65, 68, 68] [1, 5] [100] := fun _ _ _ _ _ _ => ⟨by kernel_rfl, by kernel_rfl, by kernel_rfl, by kernel_rfl⟩
theorem sh4_26 : ShOk 4 [65, 78, 68] [5] [100] := fun _ _ _ _ _ _ => ⟨by kernel_rfl, by kernel_rfl, by kernel_rfl, by kernel_rfl⟩
theorem sh4_34 : ShOk 4 [69, 88] [4, 3] [] := fun _ _ _ _ _ _ => ⟨by kernel_rfl, by kernel_rfl, by kernel_rfl, by kernel_rfl⟩
theorem sh5_4 : ShOk 5 [82, 76] [5, 1] [100] := fun _ _ _ _ _ _ => ⟨by kernel_rfl, by kernel_rfl, by kernel_rfl, by kernel_rfl⟩
theorem sh5_12 : ShOk 5 [83, 76, 76] [5, 1] [100] := fun _ _ _ _ _ _ => ⟨by kernel_rfl, by kernel_rfl, by kernel_rfl, by kernel_rfl⟩
theorem sh5_20 : ShOk 5 [83, 69, 84] [6, 5] [100] := fun _ _ _ _ _ _ => ⟨by kernel_rfl, by kernel_rfl, by kernel_rfl, by kernel_rfl⟩
theorem sh6_7 : ShOk 6 [82, 82] [5] [100] := fun _ _ _ _ _ _ => ⟨by kernel_rfl, by kernel_rfl, by kernel_rfl, by kernel_rfl⟩
theorem sh6_15 : ShOk 6 [83, 82, 76] [5] [100] := fun _ _ _ _ _ _ => ⟨by kernel_rfl, by kernel_rfl, by kernel_rfl, by kernel_rfl⟩
end Go.Proofs.YtpjcgimgiegehaaGreatDoor.Ex

/- encode.Bytes by shapes of entries, part 8. -/
namespace Go.Proofs.YtpjcgimgiegehaaGreatDoor.Ex
open Go.RowKit

theorem sh0_7 : ShOk 0 [82, 76, 67, 65] [] [] := fun _ _ _ _ _ _ => ⟨by kernel_rfl, by kernel_rfl, by kernel_rfl, by kernel_rfl⟩
theorem sh0_15 : ShOk 0 [74, 82] [10] [101] := fun _ _ _ _ _ _ => ⟨by kernel_rfl, by kernel_rfl, by kernel_rfl, by kernel_rfl⟩
theorem sh0_23 : ShOk 0 [73, 78, 67] [4] [] := fun _ _ _ _ _ _ => ⟨by kernel_rfl, by kernel_rfl, by kernel_rfl, by kernel_rfl⟩
theorem sh0_31 : ShOk 0 [65, 68, 68] [1, 1] [] := fun _ _ _ _ _ _ => ⟨by kernel_rfl, by kernel_rfl, by kernel_rfl, by kernel_rfl⟩
theorem sh0_39 : ShOk 0 [65, 78, 68] [1] [] := fun _ _ _ _ _ _ => ⟨by kernel_rfl, by kernel_rfl, by kernel_rfl, by kernel_rfl⟩
theorem sh0_47 : ShOk 0 [82, 69, 84] [8] [] := fun _ _ _ _ _ _ => ⟨by kernel_rfl, by kernel_rfl, by kernel_rfl, by kernel_rfl⟩
theorem sh0_55 : ShOk 0 [82, 69, 84] [] [] := fun _ _ _ _ _ _ => ⟨by kernel_rfl, by kernel_rfl, by kernel_rfl, by kernel_rfl⟩
theorem sh0_63 : ShOk 0 [69, 88] [4, 3] [] := fun _ _ _ _ _ _ => ⟨by kernel_rfl, by kernel_rfl, by kernel_rfl, by kernel_rfl⟩
theorem sh0_71 : ShOk 0 [67, 80] [6] [110] := fun _ _ _ _ _ _ => ⟨by kernel_rfl, by kernel_rfl, by kernel_rfl, by kernel_rfl⟩
theorem sh1_7 : ShOk 1 [82, 82] [4] [] := fun _ _ _ _ _ _ => ⟨by kernel_rfl, by kernel_rfl, by kernel_rfl, by kernel_rfl⟩
theorem sh1_15 : ShOk 1 [83, 82, 76] [4] [] := fun _ _ _ _ _ _ => ⟨by kernel_rfl, by kernel_rfl, by kernel_rfl, by kernel_rfl⟩
theorem sh2_1 : ShOk 2 [79, 85, 84] [4, 1] [] := fun _ _ _ _ _ _ => ⟨by kernel_rfl, by kernel_rfl, by kernel_rfl, by kernel_rfl⟩
theorem sh2_9 : ShOk 2 [76, 68] [3, 7] [119] := fun _ _ _ _ _ _ => ⟨by kernel_rfl, by kernel_rfl, by kernel_rfl, by kernel_rfl⟩
theorem sh2_17 : ShOk 2 [67, 80, 73] [] [] := fun _ _ _ _ _ _ => ⟨by kernel_rfl, by kernel_rfl, by kernel_rfl, by kernel_rfl⟩
theorem sh2_25 : ShOk 2 [67, 80, 73, 82] [] [] := fun _ _ _ _ _ _ => ⟨by kernel_rfl, by kernel_rfl, by kernel_rfl, by kernel_rfl⟩
theorem sh3_1 : ShOk 3 [76, 68] [3, 6] [119] := fun _ _ _ _ _ _ => ⟨by kernel_rfl, by kernel_rfl, by kernel_rfl, by kernel_rfl⟩
theorem sh3_9 : ShOk 3 [73, 78, 67] [5] [100] := fun _ _ _ _ _ _ => ⟨by kernel_rfl, by kernel_rfl, by kernel_rfl, by kernel_rfl⟩
theorem sh3_17 : ShOk 3 [65, 68, 68] [1, 2] [] := fun _ _ _ _ _ _ => ⟨by kernel_rfl, by kernel_rfl, by kernel_rfl, by kernel_rfl⟩
theorem sh3_25 : ShOk 3 [65, 78, 68] [2] [] := fun _ _ _ _ _ _ => ⟨by kernel_rfl, by kernel_rfl, by kernel_rfl, by kernel_rfl⟩
theorem sh3_33 : ShOk 3 [80, 79, 80] [3] [] := fun _ _ _ _ _ _ => ⟨by kernel_rfl, by kernel_rfl, by kernel_rfl, by kernel_rfl⟩
theorem sh4_3 : ShOk 4 [73, 78, 67] [3] [] := fun _ _ _ _ _ _ => ⟨by kernel_rfl, by kernel_rfl, by kernel_rfl, by kernel_rfl⟩
theorem sh4_11 : ShOk 4 [76, 68] [5, 6] [100, 110] := fun _ _ _ _ _ _ => ⟨by kernel_rfl, by kernel_rfl, by kernel_rfl, by kernel_rfl⟩
theorem sh4_19 : ShOk 4 [65, 68, 67] [1, 2] [] := fun _ _ _ _ _ _ => ⟨by kernel_rfl, by kernel_rfl, by kernel_rfl, by kernel_rfl⟩
theorem sh4_27 : ShOk 4 [88, 79, 82] [2] [] := fun _ _ _ _ _ _ => ⟨by kernel_rfl, by kernel_rfl, by kernel_rfl, by kernel_rfl⟩
theorem sh4_35 : ShOk 4 [80, 85, 83, 72] [3] [] := fun _ _ _ _ _ _ => ⟨by kernel_rfl, by kernel_rfl, by kernel_rfl, by kernel_rfl⟩
theorem sh5_5 : ShOk 5 [82, 76] [5] [100] := fun _ _ _ _ _ _ => ⟨by kernel_rfl, by kernel_rfl, by kernel_rfl, by kernel_rfl⟩
theorem sh5_13 : ShOk 5 [83, 76, 76] [5] [100] := fun _ _ _ _ _ _ => ⟨by kernel_rfl, by kernel_rfl, by kernel_rfl, by kernel_rfl⟩
theorem sh6_0 : ShOk 6 [82, 76, 67] [5, 1] [100] := fun _ _ _ _ _ _ => ⟨by kernel_rfl, by kernel_rfl, by kernel_rfl, by kernel_rfl⟩
theorem sh6_8 : ShOk 6 [83, 76, 65] [5, 1] [100] := fun _ _ _ _ _ _ => ⟨by kernel_rfl, by kernel_rfl, by kernel_rfl, by kernel_rfl⟩
theorem sh6_16 : ShOk 6 [66, 73, 84] [6, 5] [100] := fun _ _ _ _ _ _ => ⟨by kernel_rfl, by kernel_rfl, by kernel_rfl, by kernel_rfl⟩
end Go.Proofs.YtpjcgimgiegehaaGreatDoor.Ex
