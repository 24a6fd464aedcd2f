/- Parts of the proof of TopPrefixes, in one text: ExBs1, ExBs2. -/
import Derived.Test.YtpjcgimgiegehaaGreatDoorMK4
/- encode.Bytes by shapes of entries, part 1. -/
namespace Go.Proofs.YtpjcgimgiegehaaGreatDoor.Ex
open Go.RowKit

theorem sh0_0 : ShOk 0 [78, 79, 80] [] [] := fun _ _ _ _ _ _ => ⟨by kernel_rfl, by kernel_rfl, by kernel_rfl, by kernel_rfl⟩
theorem sh0_8 : ShOk 0 [69, 88] [3, 3] [] := fun _ _ _ _ _ _ => ⟨by kernel_rfl, by kernel_rfl, by kernel_rfl, by kernel_rfl⟩
theorem sh0_16 : ShOk 0 [82, 82, 65] [] [] := fun _ _ _ _ _ _ => ⟨by kernel_rfl, by kernel_rfl, by kernel_rfl, by kernel_rfl⟩
theorem sh0_24 : ShOk 0 [68, 69, 67] [4] [] := fun _ _ _ _ _ _ => ⟨by kernel_rfl, by kernel_rfl, by kernel_rfl, by kernel_rfl⟩
theorem sh0_32 : ShOk 0 [65, 68, 68] [1, 4] [] := fun _ _ _ _ _ _ => ⟨by kernel_rfl, by kernel_rfl, by kernel_rfl, by kernel_rfl⟩
theorem sh0_40 : ShOk 0 [65, 78, 68] [4] [] := fun _ _ _ _ _ _ => ⟨by kernel_rfl, by kernel_rfl, by kernel_rfl, by kernel_rfl⟩
theorem sh0_48 : ShOk 0 [80, 79, 80] [3] [] := fun _ _ _ _ _ _ => ⟨by kernel_rfl, by kernel_rfl, by kernel_rfl, by kernel_rfl⟩
theorem sh0_56 : ShOk 0 [67, 65, 76, 76] [6] [119] := fun _ _ _ _ _ _ => ⟨by kernel_rfl, by kernel_rfl, by kernel_rfl, by kernel_rfl⟩
theorem sh0_64 : ShOk 0 [65, 78, 68] [6] [110] := fun _ _ _ _ _ _ => ⟨by kernel_rfl, by kernel_rfl, by kernel_rfl, by kernel_rfl⟩
theorem sh1_0 : ShOk 1 [82, 76, 67] [1] [] := fun _ _ _ _ _ _ => ⟨by kernel_rfl, by kernel_rfl, by kernel_rfl, by kernel_rfl⟩
theorem sh1_8 : ShOk 1 [83, 76, 65] [1] [] := fun _ _ _ _ _ _ => ⟨by kernel_rfl, by kernel_rfl, by kernel_rfl, by kernel_rfl⟩
theorem sh1_16 : ShOk 1 [66, 73, 84] [6, 1] [] := fun _ _ _ _ _ _ => ⟨by kernel_rfl, by kernel_rfl, by kernel_rfl, by kernel_rfl⟩
theorem sh2_2 : ShOk 2 [83, 66, 67] [3, 3] [] := fun _ _ _ _ _ _ => ⟨by kernel_rfl, by kernel_rfl, by kernel_rfl, by kernel_rfl⟩
theorem sh2_10 : ShOk 2 [82, 69, 84, 73] [] [] := fun _ _ _ _ _ _ => ⟨by kernel_rfl, by kernel_rfl, by kernel_rfl, by kernel_rfl⟩
theorem sh2_18 : ShOk 2 [73, 78, 73] [] [] := fun _ _ _ _ _ _ => ⟨by kernel_rfl, by kernel_rfl, by kernel_rfl, by kernel_rfl⟩
theorem sh2_26 : ShOk 2 [73, 78, 73, 82] [] [] := fun _ _ _ _ _ _ => ⟨by kernel_rfl, by kernel_rfl, by kernel_rfl, by kernel_rfl⟩
theorem sh3_2 : ShOk 3 [76, 68] [7, 3] [119] := fun _ _ _ _ _ _ => ⟨by kernel_rfl, by kernel_rfl, by kernel_rfl, by kernel_rfl⟩
theorem sh3_10 : ShOk 3 [68, 69, 67] [5] [100] := fun _ _ _ _ _ _ => ⟨by kernel_rfl, by kernel_rfl, by kernel_rfl, by kernel_rfl⟩
theorem sh3_18 : ShOk 3 [65, 68, 68] [1, 5] [100] := fun _ _ _ _ _ _ => ⟨by kernel_rfl, by kernel_rfl, by kernel_rfl, by kernel_rfl⟩
theorem sh3_26 : ShOk 3 [65, 78, 68] [5] [100] := fun _ _ _ _ _ _ => ⟨by kernel_rfl, by kernel_rfl, by kernel_rfl, by kernel_rfl⟩
theorem sh3_34 : ShOk 3 [69, 88] [4, 3] [] := fun _ _ _ _ _ _ => ⟨by kernel_rfl, by kernel_rfl, by kernel_rfl, by kernel_rfl⟩
theorem sh4_4 : ShOk 4 [73, 78, 67] [2] [] := fun _ _ _ _ _ _ => ⟨by kernel_rfl, by kernel_rfl, by kernel_rfl, by kernel_rfl⟩
theorem sh4_12 : ShOk 4 [76, 68] [1, 2] [] := fun _ _ _ _ _ _ => ⟨by kernel_rfl, by kernel_rfl, by kernel_rfl, by kernel_rfl⟩
theorem sh4_20 : ShOk 4 [65, 68, 67] [1, 5] [100] := fun _ _ _ _ _ _ => ⟨by kernel_rfl, by kernel_rfl, by kernel_rfl, by kernel_rfl⟩
theorem sh4_28 : ShOk 4 [88, 79, 82] [5] [100] := fun _ _ _ _ _ _ => ⟨by kernel_rfl, by kernel_rfl, by kernel_rfl, by kernel_rfl⟩
theorem sh4_36 : ShOk 4 [74, 80] [4] [] := fun _ _ _ _ _ _ => ⟨by kernel_rfl, by kernel_rfl, by kernel_rfl, by kernel_rfl⟩
theorem sh5_6 : ShOk 5 [82, 82] [5, 1] [100] := fun _ _ _ _ _ _ => ⟨by kernel_rfl, by kernel_rfl, by kernel_rfl, by kernel_rfl⟩
theorem sh5_14 : ShOk 5 [83, 82, 76] [5, 1] [100] := fun _ _ _ _ _ _ => ⟨by kernel_rfl, by kernel_rfl, by kernel_rfl, by kernel_rfl⟩
theorem sh6_1 : ShOk 6 [82, 76, 67] [5] [100] := fun _ _ _ _ _ _ => ⟨by kernel_rfl, by kernel_rfl, by kernel_rfl, by kernel_rfl⟩
theorem sh6_9 : ShOk 6 [83, 76, 65] [5] [100] := fun _ _ _ _ _ _ => ⟨by kernel_rfl, by kernel_rfl, by kernel_rfl, by kernel_rfl⟩
theorem sh6_17 : ShOk 6 [82, 69, 83] [6, 5, 1] [100] := fun _ _ _ _ _ _ => ⟨by kernel_rfl, by kernel_rfl, by kernel_rfl, by kernel_rfl⟩
end Go.Proofs.YtpjcgimgiegehaaGreatDoor.Ex

/- encode.Bytes by shapes of entries, part 2. -/
namespace Go.Proofs.YtpjcgimgiegehaaGreatDoor.Ex
open Go.RowKit

theorem sh0_1 : ShOk 0 [76, 68] [3, 6] [119] := fun _ _ _ _ _ _ => ⟨by kernel_rfl, by kernel_rfl, by kernel_rfl, by kernel_rfl⟩
theorem sh0_9 : ShOk 0 [65, 68, 68] [3, 3] [] := fun _ _ _ _ _ _ => ⟨by kernel_rfl, by kernel_rfl, by kernel_rfl, by kernel_rfl⟩
theorem sh0_17 : ShOk 0 [74, 82] [8, 10] [101] := fun _ _ _ _ _ _ => ⟨by kernel_rfl, by kernel_rfl, by kernel_rfl, by kernel_rfl⟩
theorem sh0_25 : ShOk 0 [76, 68] [4, 6] [110] := fun _ _ _ _ _ _ => ⟨by kernel_rfl, by kernel_rfl, by kernel_rfl, by kernel_rfl⟩
theorem sh0_33 : ShOk 0 [65, 68, 67] [1, 1] [] := fun _ _ _ _ _ _ => ⟨by kernel_rfl, by kernel_rfl, by kernel_rfl, by kernel_rfl⟩
theorem sh0_41 : ShOk 0 [88, 79, 82] [1] [] := fun _ _ _ _ _ _ => ⟨by kernel_rfl, by kernel_rfl, by kernel_rfl, by kernel_rfl⟩
theorem sh0_49 : ShOk 0 [74, 80] [8, 6] [119] := fun _ _ _ _ _ _ => ⟨by kernel_rfl, by kernel_rfl, by kernel_rfl, by kernel_rfl⟩
theorem sh0_57 : ShOk 0 [65, 68, 67] [1, 6] [110] := fun _ _ _ _ _ _ => ⟨by kernel_rfl, by kernel_rfl, by kernel_rfl, by kernel_rfl⟩
theorem sh0_65 : ShOk 0 [74, 80] [4] [] := fun _ _ _ _ _ _ => ⟨by kernel_rfl, by kernel_rfl, by kernel_rfl, by kernel_rfl⟩
theorem sh1_1 : ShOk 1 [82, 76, 67] [4] [] := fun _ _ _ _ _ _ => ⟨by kernel_rfl, by kernel_rfl, by kernel_rfl, by kernel_rfl⟩
theorem sh1_9 : ShOk 1 [83, 76, 65] [4] [] := fun _ _ _ _ _ _ => ⟨by kernel_rfl, by kernel_rfl, by kernel_rfl, by kernel_rfl⟩
theorem sh1_17 : ShOk 1 [66, 73, 84] [6, 4] [] := fun _ _ _ _ _ _ => ⟨by kernel_rfl, by kernel_rfl, by kernel_rfl, by kernel_rfl⟩
theorem sh2_3 : ShOk 2 [76, 68] [7, 3] [119] := fun _ _ _ _ _ _ => ⟨by kernel_rfl, by kernel_rfl, by kernel_rfl, by kernel_rfl⟩
theorem sh2_11 : ShOk 2 [76, 68] [1, 9] [] := fun _ _ _ _ _ _ => ⟨by kernel_rfl, by kernel_rfl, by kernel_rfl, by kernel_rfl⟩
theorem sh2_19 : ShOk 2 [79, 85, 84, 73] [] [] := fun _ _ _ _ _ _ => ⟨by kernel_rfl, by kernel_rfl, by kernel_rfl, by kernel_rfl⟩
theorem sh2_27 : ShOk 2 [79, 84, 73, 82] [] [] := fun _ _ _ _ _ _ => ⟨by kernel_rfl, by kernel_rfl, by kernel_rfl, by kernel_rfl⟩
theorem sh3_3 : ShOk 3 [73, 78, 67] [3] [] := fun _ _ _ _ _ _ => ⟨by kernel_rfl, by kernel_rfl, by kernel_rfl, by kernel_rfl⟩
theorem sh3_11 : ShOk 3 [76, 68] [5, 6] [100, 110] := fun _ _ _ _ _ _ => ⟨by kernel_rfl, by kernel_rfl, by kernel_rfl, by kernel_rfl⟩
theorem sh3_19 : ShOk 3 [65, 68, 67] [1, 2] [] := fun _ _ _ _ _ _ => ⟨by kernel_rfl, by kernel_rfl, by kernel_rfl, by kernel_rfl⟩
theorem sh3_27 : ShOk 3 [88, 79, 82] [2] [] := fun _ _ _ _ _ _ => ⟨by kernel_rfl, by kernel_rfl, by kernel_rfl, by kernel_rfl⟩
theorem sh3_35 : ShOk 3 [80, 85, 83, 72] [3] [] := fun _ _ _ _ _ _ => ⟨by kernel_rfl, by kernel_rfl, by kernel_rfl, by kernel_rfl⟩
theorem sh4_5 : ShOk 4 [68, 69, 67] [2] [] := fun _ _ _ _ _ _ => ⟨by kernel_rfl, by kernel_rfl, by kernel_rfl, by kernel_rfl⟩
theorem sh4_13 : ShOk 4 [76, 68] [1, 5] [100] := fun _ _ _ _ _ _ => ⟨by kernel_rfl, by kernel_rfl, by kernel_rfl, by kernel_rfl⟩
theorem sh4_21 : ShOk 4 [83, 85, 66] [2] [] := fun _ _ _ _ _ _ => ⟨by kernel_rfl, by kernel_rfl, by kernel_rfl, by kernel_rfl⟩
theorem sh4_29 : ShOk 4 [79, 82] [2] [] := fun _ _ _ _ _ _ => ⟨by kernel_rfl, by kernel_rfl, by kernel_rfl, by kernel_rfl⟩
theorem sh4_37 : ShOk 4 [76, 68] [3, 3] [] := fun _ _ _ _ _ _ => ⟨by kernel_rfl, by kernel_rfl, by kernel_rfl, by kernel_rfl⟩
theorem sh5_7 : ShOk 5 [82, 82] [5] [100] := fun _ _ _ _ _ _ => ⟨by kernel_rfl, by kernel_rfl, by kernel_rfl, by kernel_rfl⟩
theorem sh5_15 : ShOk 5 [83, 82, 76] [5] [100] := fun _ _ _ _ _ _ => ⟨by kernel_rfl, by kernel_rfl, by kernel_rfl, by kernel_rfl⟩
theorem sh6_2 : ShOk 6 [82, 82, 67] [5, 1] [100] := fun _ _ _ _ _ _ => ⟨by kernel_rfl, by kernel_rfl, by kernel_rfl, by kernel_rfl⟩
theorem sh6_10 : ShOk 6 [83, 82, 65] [5, 1] [100] := fun _ _ _ _ _ _ => ⟨by kernel_rfl, by kernel_rfl, by kernel_rfl, by kernel_rfl⟩
theorem sh6_18 : ShOk 6 [82, 69, 83] [6, 5] [100] := fun _ _ _ _ _ _ => ⟨by kernel_rfl, by kernel_rfl, by kernel_rfl, by kernel_rfl⟩
end Go.Proofs.YtpjcgimgiegehaaGreatDoor.Ex
