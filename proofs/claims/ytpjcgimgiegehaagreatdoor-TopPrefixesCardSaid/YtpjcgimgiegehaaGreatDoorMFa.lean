/- Parts of the proof of TopPrefixes, in one text: TpFa, TpFb, TpFc. -/
import Derived.Test.YtpjcgimgiegehaaGreatDoorTie
import Derived.JoinedCond
/- The closed facts of the row of TopPrefixes: what its call can come to, written out. -/
namespace Go.Proofs.YtpjcgimgiegehaaGreatDoor

def clo : List FuncId := [3, 4, 10, 24, 52, 86, 87, 120, 164, 211, 276, 212, 213, 214, 277, 53, 25, 54, 88, 89, 121, 165, 166, 55, 90, 122, 167, 168, 215, 123, 169, 118, 26, 56, 91, 124, 119, 92, 67, 126, 125, 170, 216, 217, 218, 219, 112, 117, 158, 207, 208, 269, 270, 332, 331, 333, 271, 272, 334, 335, 375, 205, 159, 220, 221, 222, 93, 127, 171, 57, 58, 95, 128, 94, 59, 60, 61, 62, 63, 64, 65, 66, 11, 27, 68, 28, 12, 5, 13, 29, 70, 96, 97, 71, 98, 99, 129, 172, 223, 278, 224, 279, 337, 261, 338, 339, 280, 340, 377, 416, 417, 438, 418, 419, 439, 440, 444, 199, 281, 341, 111, 157, 206, 140, 114, 282, 342, 173, 225, 228, 226, 285, 227, 283, 343, 229, 286, 345, 231, 289, 348, 284, 344, 230, 287, 346, 288, 347, 378, 379, 420, 421, 423, 441, 422, 246, 301, 357, 302, 303, 304, 305, 358, 306, 307, 308, 309, 310, 311, 359, 312, 313, 239, 295, 354, 398, 353, 389, 395, 433, 390, 428, 391, 429, 430, 392, 431, 432, 442, 393, 394, 396, 397, 296, 380, 240, 232, 290, 349, 381, 424, 382, 425, 426, 368, 330, 383, 427, 384, 385, 291, 350, 386, 387, 388, 202, 262, 321, 263, 264, 322, 366, 407, 367, 203, 265, 326, 188, 247, 266, 327, 328, 267, 329, 323, 369, 371, 412, 370, 408, 410, 409, 411, 324, 373, 372, 325, 374, 34, 79, 115, 163, 80, 116, 81, 35, 72, 100, 101, 130, 174, 175, 234, 292, 233, 235, 176, 236, 293, 351, 36, 237, 294, 352, 180, 238, 187, 245, 177, 178, 132, 182, 242, 298, 241, 297, 355, 183, 181, 185, 186, 244, 184, 243, 299, 300, 356, 399, 189, 248, 249, 314, 131, 179, 133, 75, 190, 250, 251, 315, 316, 360, 82, 252, 253, 317, 361, 400, 401, 257, 254, 318, 362, 402, 403, 404, 363, 405, 268, 364, 406, 6, 15, 33, 16, 37, 38, 83, 39, 40, 153, 156, 200, 134, 191, 255, 256, 319, 365, 135, 69, 30, 74, 103, 137, 110, 152, 138, 193, 258, 104, 139, 141, 194, 142, 73, 102, 136, 192, 14, 31, 76, 105, 144, 143, 145, 147, 195, 146, 149, 197, 260, 196, 259, 320, 148, 106, 150, 198, 151, 107, 108, 32, 77, 109, 154, 201, 155, 204, 78, 113, 160, 161, 210, 274, 275, 336, 376, 413, 414, 434, 415, 435, 9, 436, 437, 443, 209, 273, 162, 7, 17, 41, 48, 42, 43, 84, 46, 85, 47, 51, 19, 49, 50, 44, 45, 18, 20, 21, 23, 22, 8]
theorem clo_eq : Tryz.prog.closure 3 = clo := by kernel_rfl
end Go.Proofs.YtpjcgimgiegehaaGreatDoor

/- The closed facts of the row of TopPrefixes, one by one. -/
namespace Go.Proofs.YtpjcgimgiegehaaGreatDoor

theorem unf_eq : Tryz.prog.unfollowed 3 = true := by
  unfold Program.unfollowed
  rw [clo_eq]
  kernel_rfl
theorem and2 {a b : Bool} (ha : a = true) (hb : b = true) : (a && b) = true := by rw [ha, hb]; rfl
theorem fact0 : (Rows.topPrefixesRow.wf (OpenSpec.ofChange (OpenSpec.ofChange Rows.topPrefixesSpec).bare)) = true := by
  kernel_rfl
theorem fact1 : (laidOutB Tryz.prog) = true := by
  kernel_rfl
theorem fact2 : (mapsRowed Tryz.prog) = true := by
  kernel_rfl
theorem fact3 : (Tryz.f3.params.all (Tryz.prog.readableRec ·)) = true := by
  kernel_rfl
theorem fact4 : (namedTie Tryz.prog Rows.topPrefixesRow.named (OpenSpec.ofChange Rows.topPrefixesSpec).bare.vars) = true := by
  kernel_rfl
theorem fact5 : ((Rows.topPrefixesRow.stops == [])) = true := by
  kernel_rfl
theorem fact6 : ((Tryz.prog.stops == [])) = true := by
  kernel_rfl
theorem fact7 : ((Rows.topPrefixesRow.knobs == [])) = true := by
  kernel_rfl
theorem fact8 : ((Tryz.prog.stopKnobs == [])) = true := by
  kernel_rfl
theorem fact9 : ((Rows.topPrefixesRow.inPlace == Tryz.prog.inPlace 3)) = true := by
  unfold Program.inPlace
  rw [clo_eq]
  kernel_rfl
theorem fact10 : ((Rows.topPrefixesRow.unfollowed == Tryz.prog.unfollowed 3)) = true := by
  rw [unf_eq]
  kernel_rfl
theorem fact11 : ((Rows.topPrefixesRow.recurses == Tryz.prog.recurses 3)) = true := by
  unfold Program.recurses
  rw [unf_eq]
  kernel_rfl
theorem fact12 : ((Rows.topPrefixesRow.named == Tryz.prog.varsNamed 3)) = true := by
  unfold Program.varsNamed
  rw [clo_eq]
  kernel_rfl
theorem fact13 : ((Rows.topPrefixesRow.maps == (Tryz.f3.params.toList ++ (OpenSpec.ofChange Rows.topPrefixesSpec).bare.plain.varTypes Tryz.prog).any (Tryz.prog.mapsRec ·))) = true := by
  kernel_rfl
theorem fact14 : ((Rows.topPrefixesRow.ifaces == (Tryz.f3.params.toList ++ (OpenSpec.ofChange Rows.topPrefixesSpec).bare.plain.varTypes Tryz.prog).any (Tryz.prog.ifacesRec ·))) = true := by
  kernel_rfl
theorem fact15 : ((Rows.topPrefixesRow.mapsOut == Tryz.prog.mapsAmong Tryz.f3.resultTypes.toList)) = true := by
  kernel_rfl
theorem fact16 : ((Rows.topPrefixesRow.loops == (Tryz.f3.params.toList ++ (OpenSpec.ofChange Rows.topPrefixesSpec).bare.plain.varTypes Tryz.prog).any (Tryz.prog.loopsFrom ·))) = true := by
  kernel_rfl
theorem fact17 : ((Rows.topPrefixesRow.wideKeys == (Tryz.f3.params.toList ++ (OpenSpec.ofChange Rows.topPrefixesSpec).bare.plain.varTypes Tryz.prog ++ Tryz.f3.resultTypes.toList).any (Tryz.prog.wideKeysFrom ·))) = true := by
  kernel_rfl
theorem fact18 : ((OpenSpec.ofChange Rows.topPrefixesSpec).bare.vars.all (Tryz.prog.varReadable ·)) = true := by
  kernel_rfl
theorem fact19 : (Tryz.f3.resultTypes.all (fun t => Tryz.prog.readableRec t && decide (t < Tryz.prog.types.size))) = true := by
  kernel_rfl
theorem fact20 : ((Rows.topPrefixesRow.ifacesOut == Tryz.f3.resultTypes.toList.any (Tryz.prog.ifacesRec ·))) = true := by
  kernel_rfl
theorem fact21 : ((Rows.topPrefixesRow.loopsOut == Tryz.f3.resultTypes.toList.any (Tryz.prog.loopsFrom ·))) = true := by
  kernel_rfl
theorem fact22 : ((Rows.topPrefixesRow.plainKeys == Tryz.prog.plainKeys)) = true := by
  kernel_rfl
theorem fact23 : (Rows.topPrefixesRow.shortTexts.isNone) = true := by
  kernel_rfl
theorem fact24 : (Tryz.prog.stopsHeard) = true := by
  kernel_rfl
theorem fact25 : (Tryz.prog.mayEnter) = true := by
  kernel_rfl
theorem fact26 : ((Rows.topPrefixesRow.lifted == Tryz.prog.liftsFinal)) = true := by
  kernel_rfl
theorem fact27 : ((Tryz.prog.make == some Rows.topPrefixesRow.make)) = true := by
  kernel_rfl
theorem fact28 : ((Rows.topPrefixesRow.kinds == (if Rows.topPrefixesRow.domain.isEmpty then [] else Tryz.f3.params.toList.map fun t => match Tryz.prog.underlying t with | some (.int k) => some k | _ => none))) = true := by
  kernel_rfl
theorem fact29 : ((Rows.topPrefixesRow.pinned == Rows.topPrefixesRow.pinnedBy)) = true := by
  kernel_rfl
theorem fact30 : ((Rows.topPrefixesRow.veiled == (Tryz.f3.params.toList ++ (OpenSpec.ofChange Rows.topPrefixesSpec).bare.plain.varTypes Tryz.prog ++ Tryz.f3.resultTypes.toList).any (Tryz.prog.veiledRec ·))) = true := by
  kernel_rfl
theorem fact31 : (Rows.topPrefixesRow.veiledFits Tryz.prog Tryz.f3.params.toList (Tryz.f3.params.toList ++ (OpenSpec.ofChange Rows.topPrefixesSpec).bare.plain.varTypes Tryz.prog ++ Tryz.f3.resultTypes.toList)) = true := by
  kernel_rfl
end Go.Proofs.YtpjcgimgiegehaaGreatDoor

/- The closed facts of the row of TopPrefixes, together. -/
namespace Go.Proofs.YtpjcgimgiegehaaGreatDoor

set_option maxRecDepth 100000 in
theorem closed : joinedFacts Tryz.prog 3 Tryz.f3 (OpenSpec.ofChange Rows.topPrefixesSpec).bare Rows.topPrefixesRow = true := by
  unfold joinedFacts
  rw [fact0, fact1, fact2, fact3, fact4, fact5, fact6, fact7, fact8, fact9, fact10, fact11, fact12, fact13, fact14, fact15, fact16, fact17, fact18, fact19, fact20, fact21, fact22, fact23, fact24, fact25, fact26, fact27, fact29, fact30, fact31]
  simp only [Bool.and_true, Bool.true_and]
  kernel_rfl
end Go.Proofs.YtpjcgimgiegehaaGreatDoor
