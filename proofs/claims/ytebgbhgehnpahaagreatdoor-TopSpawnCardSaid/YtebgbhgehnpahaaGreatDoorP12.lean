/- A part of the proof of the claim that the last text of this folder states. -/
import Derived.Test.YtebgbhgehnpahaaGreatDoorP11
namespace Go.Proofs.YtebgbhgehnpahaaGreatDoor
open Go.E
set_option linter.all false
set_option maxRecDepth 100000
theorem Prclo : Tryz.prog.closure 8 = [8, 11, 13, 19, 12, 25, 43, 85, 176, 177, 86, 89, 87, 178, 252, 286, 44, 45, 88, 90, 91, 105, 92, 93, 94, 46, 95, 67, 96, 179, 235, 281, 253, 254, 255, 180, 97, 181, 99, 183, 231, 182, 98, 100, 184, 57, 47, 101, 71, 33, 144, 68, 141, 102, 103, 185, 31, 55, 104, 186, 107, 188, 187, 189, 48, 106, 49, 108, 109, 190, 39, 56, 191, 110, 192, 256, 277, 50, 111, 194, 193, 51, 113, 112, 23, 40, 116, 195, 117, 196, 120, 199, 52, 114, 197, 115, 198, 53, 118, 119, 54, 30, 27, 28, 26, 15, 14, 29, 18, 34, 58, 35, 36, 59, 121, 200, 122, 201, 257, 258, 287, 288, 289, 290, 124, 123, 202, 125, 203, 243, 284, 204, 259, 127, 221, 219, 209, 271, 126, 205, 207, 263, 206, 260, 261, 245, 285, 262, 291, 60, 128, 208, 129, 37, 61, 130, 210, 131, 211, 223, 226, 222, 272, 301, 212, 135, 134, 224, 218, 269, 220, 38, 270, 299, 300, 333, 358, 370, 356, 359, 360, 302, 22, 225, 274, 273, 267, 213, 264, 292, 306, 336, 335, 361, 387, 233, 362, 363, 388, 400, 372, 389, 366, 364, 365, 305, 334, 307, 337, 308, 338, 367, 309, 339, 368, 369, 147, 310, 340, 311, 341, 371, 390, 312, 342, 373, 374, 391, 401, 375, 346, 378, 268, 294, 143, 232, 295, 296, 297, 298, 349, 392, 398, 407, 382, 394, 406, 227, 275, 248, 249, 304, 276, 172, 251, 395, 383, 384, 397, 396, 408, 381, 386, 399, 409, 402, 376, 393, 404, 405, 377, 403, 313, 343, 314, 344, 315, 345, 32, 316, 16, 317, 318, 319, 347, 379, 320, 321, 348, 322, 323, 350, 380, 324, 351, 385, 325, 352, 326, 353, 327, 354, 328, 355, 329, 330, 331, 332, 357, 293, 137, 132, 214, 215, 217, 265, 266, 216, 133, 62, 136, 228, 278, 303, 279, 280, 230, 63, 138, 64, 139, 229, 65, 140, 66, 24, 41, 69, 142, 70, 42, 72, 73, 146, 145, 74, 148, 234, 149, 75, 150, 151, 76, 152, 153, 154, 236, 158, 237, 155, 156, 238, 77, 157, 239, 282, 240, 78, 79, 159, 160, 241, 161, 175, 242, 283, 169, 244, 173, 80, 163, 162, 164, 165, 81, 166, 246, 167, 247, 168, 82, 170, 171, 250, 83, 174, 84, 20, 17, 21] := by kernel_rfl
theorem Prunf : Tryz.prog.unfollowed 8 = true := by
  unfold Program.unfollowed
  rw [Prclo]
  kernel_rfl
theorem Prj9 : (Rows.topSpawnRow.inPlace == Tryz.prog.inPlace 8) = true := by
  unfold Program.inPlace
  rw [Prclo]
  kernel_rfl
theorem Prj10 : (Rows.topSpawnRow.unfollowed == Tryz.prog.unfollowed 8) = true := by
  rw [Prunf]
  kernel_rfl
theorem Prj11 : (Rows.topSpawnRow.recurses == Tryz.prog.recurses 8) = true := by
  unfold Program.recurses
  rw [Prunf, Bool.true_or]
  kernel_rfl
theorem Prj12 : (Rows.topSpawnRow.named == Tryz.prog.varsNamed 8) = true := by
  unfold Program.varsNamed
  rw [Prclo]
  kernel_rfl
theorem Prgo1 : Tryz.prog.funcs.any Func.goes = false := by kernel_rfl
theorem Prgo2 : ((Tryz.prog.closure 8).any fun g => (Tryz.prog.funcs[g]?).any Func.goes) = false := by
  rw [Prclo]
  kernel_rfl
theorem Prgo3 : Tryz.prog.goes 8 = false := by
  unfold Program.goes
  rw [Prgo1, Prgo2, Bool.and_false]; rfl
end Go.Proofs.YtebgbhgehnpahaaGreatDoor
