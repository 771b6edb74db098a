/- The texts of functions of the given program, for the abstract machine: written by wip/tools/gen.py out of Lean's print of the translation. Conditions: none; definitions alone. -/
import Derived.Test.YtdkgdneiilnppaaAb
set_option linter.all false
namespace Go.Ab
-- burinlaw2_BitmapCrops: 111, parameters ?; loops burinlaw2_BitmapCrops_l0 [1 ?, 3 ?, 5 ?, 6 ?, 7 ?, 8 ?, 9 ?, 16 ?, 17 ?]; burinlaw2_BitmapCrops_l1 [1 ?, 3 ?, 5 ?, 6 ?, 7 ?, 8 ?, 9 ?, 16 ?, 17 ?, 18 ?]

def burinlaw2_BitmapCrops_l1 : Cd := .seq (.seq (.reg false [1, 3, 5, 6, 7, 8, 9, 16, 17, 18, 175] [⟨some 173, .mv (.t 18), none, 0, []⟩,
    ⟨some 174, .mv (.t 7), none, 0, []⟩,
    ⟨some 175, .bin .lss .num (.t 173) (.t 174), none, 0, []⟩])
  (.cond (.t 175) (.skip)
  (.exit 2)))
  (.seq (.block 3 (.reg false [1, 3, 5, 6, 7, 8, 9, 16, 17, 18] [⟨some 178, .mv (.t 16), none, 0, []⟩,
    ⟨some 179, .fad 0 (.t 1), none, 0, []⟩,
    ⟨some 180, .load (some 3) (.t 179), none, 0, []⟩,
    ⟨some 181, .mv (.t 5), none, 0, []⟩,
    ⟨some 182, .mv (.t 18), none, 0, []⟩,
    ⟨some 183, .bin .add .num (.t 181) (.t 182), none, 0, []⟩,
    ⟨some 184, .mv (.t 6), none, 0, []⟩,
    ⟨some 185, .mv (.t 17), none, 0, []⟩,
    ⟨some 186, .bin .add .num (.t 184) (.t 185), none, 0, []⟩,
    ⟨some 187, .call (.f 78) [(.t 180), (.t 183), (.t 186)], none, 0, []⟩,
    ⟨some 188, .bin .add .num (.t 178) (.t 187), none, 0, []⟩,
    ⟨some 16, .mv (.t 188), none, 0, []⟩]))
  (.reg false [1, 3, 5, 6, 7, 8, 9, 16, 17, 18] [⟨some 176, .mv (.t 18), none, 0, []⟩,
    ⟨some 177, .bin .add .num (.t 176) (.c (.int .i64 1)), none, 0, []⟩,
    ⟨some 18, .mv (.t 177), none, 0, []⟩]))
def burinlaw2_BitmapCrops_l0 : Cd := .seq (.seq (.reg false [1, 3, 5, 6, 7, 8, 9, 16, 17, 170] [⟨some 168, .mv (.t 17), none, 0, []⟩,
    ⟨some 169, .mv (.t 8), none, 0, []⟩,
    ⟨some 170, .bin .lss .num (.t 168) (.t 169), none, 0, []⟩])
  (.cond (.t 170) (.skip)
  (.exit 0)))
  (.seq (.block 1 (.seq (.reg false [1, 3, 5, 6, 7, 8, 9, 16, 17, 18] [⟨some 18, .mv (.c (.int .i64 0)), none, 0, []⟩])
  (.block 2 (.loop [1, 3, 5, 6, 7, 8, 9, 16, 17, 18] burinlaw2_BitmapCrops_l1))))
  (.reg false [1, 3, 5, 6, 7, 8, 9, 16, 17] [⟨some 171, .mv (.t 17), none, 0, []⟩,
    ⟨some 172, .bin .add .num (.t 171) (.c (.int .i64 1)), none, 0, []⟩,
    ⟨some 17, .mv (.t 172), none, 0, []⟩]))
/-- burin/burinlaw2.BitmapCrops -/
def burinlaw2_BitmapCrops : AFun := ⟨1, 202, true, [.t 2],
  .seq (.reg false [1] [⟨some 1, .box 14 (.t 0), none, 0, []⟩,
    ⟨some 2, .mv (.c (.bool false)), none, 0, []⟩])
  (.seq (.seq (.reg false [1, 29] [⟨some 19, .fad 0 (.t 1), none, 0, []⟩,
    ⟨some 20, .load (some 3) (.t 19), none, 0, []⟩,
    ⟨some 21, .call (.f 76) [(.t 20)], none, 0, []⟩,
    ⟨some 22, .un .not (.t 21), none, 0, []⟩,
    ⟨some 23, .mv (.t 22), none, 0, []⟩,
    ⟨some 24, .fad 0 (.t 1), some (23, false), 0, []⟩,
    ⟨some 25, .load (some 3) (.t 24), some (23, false), 0, []⟩,
    ⟨some 26, .bslice 3 [.int .i64 0, .int .i64 0, .sl none 0 0 0] 1 [(0, (.t 25))], some (23, false), 0, []⟩,
    ⟨some 27, .call (.f 98) [(.t 26), (.c (.int .i64 60000))], some (23, false), 0, []⟩,
    ⟨some 28, .un .not (.t 27), some (23, false), 0, []⟩,
    ⟨some 29, .pick (.t 23) (.c (.bool true)) (.t 28), none, 0, []⟩])
  (.cond (.t 29) (.seq (.reg false [2] [⟨some 30, .call (.f 99) [], none, 0, []⟩,
    ⟨some 2, .mv (.t 30), none, 0, []⟩])
  (.ret))
  (.skip)))
  (.seq (.reg false [1, 3, 4] [⟨some 32, .fad 0 (.t 1), none, 0, []⟩,
    ⟨some 33, .load (some 3) (.t 32), none, 0, []⟩,
    ⟨some 34, .call (.f 44) [(.t 33)], none, 0, []⟩,
    ⟨some 31, .mv (.t 34), none, 0, []⟩,
    ⟨some 35, .ext 0 (.t 31), none, 0, []⟩,
    ⟨some 36, .ext 1 (.t 31), none, 0, []⟩,
    ⟨some 3, .mv (.t 35), none, 0, []⟩,
    ⟨some 4, .mv (.t 36), none, 0, []⟩])
  (.seq (.seq (.reg false [1, 3, 42] [⟨some 37, .mv (.t 4), none, 0, []⟩,
    ⟨some 38, .bin .neq .num (.t 37) (.c (.int .i64 0)), none, 0, []⟩,
    ⟨some 39, .mv (.t 38), none, 0, []⟩,
    ⟨some 40, .mv (.t 3), some (39, false), 0, []⟩,
    ⟨some 41, .bin .eql .ptr (.t 40) (.c (.ptr none)), some (39, false), 0, []⟩,
    ⟨some 42, .pick (.t 39) (.c (.bool true)) (.t 41), none, 0, []⟩])
  (.cond (.t 42) (.seq (.reg false [2] [⟨some 2, .mv (.c (.bool false)), none, 0, []⟩])
  (.ret))
  (.skip)))
  (.seq (.reg false [1, 3, 5] [⟨some 43, .fad 6 (.t 1), none, 0, []⟩,
    ⟨some 44, .iad (some 8) 1 (.t 43) (.c (.int .i64 0)), none, 0, []⟩,
    ⟨some 45, .load none (.t 44), none, 0, []⟩,
    ⟨some 46, .bin .rem .num (.t 45) (.c (.int .i64 200)), none, 0, []⟩,
    ⟨some 5, .mv (.t 46), none, 0, []⟩])
  (.seq (.reg false [1, 3, 5, 6] [⟨some 47, .fad 6 (.t 1), none, 0, []⟩,
    ⟨some 48, .iad (some 8) 1 (.t 47) (.c (.int .i64 1)), none, 0, []⟩,
    ⟨some 49, .load none (.t 48), none, 0, []⟩,
    ⟨some 50, .bin .rem .num (.t 49) (.c (.int .i64 30)), none, 0, []⟩,
    ⟨some 6, .mv (.t 50), none, 0, []⟩])
  (.seq (.reg false [1, 3, 5, 6, 7] [⟨some 51, .fad 6 (.t 1), none, 0, []⟩,
    ⟨some 52, .iad (some 8) 1 (.t 51) (.c (.int .i64 2)), none, 0, []⟩,
    ⟨some 53, .load none (.t 52), none, 0, []⟩,
    ⟨some 54, .call (.f 29) [(.t 53), (.c (.int .i64 150))], none, 0, []⟩,
    ⟨some 55, .bin .add .num (.c (.int .i64 1)) (.t 54), none, 0, []⟩,
    ⟨some 7, .mv (.t 55), none, 0, []⟩])
  (.seq (.reg false [1, 3, 5, 6, 7, 8] [⟨some 56, .fad 6 (.t 1), none, 0, []⟩,
    ⟨some 57, .iad (some 8) 1 (.t 56) (.c (.int .i64 3)), none, 0, []⟩,
    ⟨some 58, .load none (.t 57), none, 0, []⟩,
    ⟨some 59, .call (.f 29) [(.t 58), (.c (.int .i64 30))], none, 0, []⟩,
    ⟨some 60, .bin .add .num (.c (.int .i64 1)) (.t 59), none, 0, []⟩,
    ⟨some 8, .mv (.t 60), none, 0, []⟩])
  (.seq (.reg false [1, 3, 4, 5, 6, 7, 8, 9] [⟨some 62, .mv (.t 3), none, 0, []⟩,
    ⟨some 63, .mv (.t 5), none, 0, []⟩,
    ⟨some 64, .mv (.t 6), none, 0, []⟩,
    ⟨some 65, .mv (.t 7), none, 0, []⟩,
    ⟨some 66, .mv (.t 8), none, 0, []⟩,
    ⟨some 67, .call (.f 65) [(.t 62), (.t 63), (.t 64), (.t 65), (.t 66)], none, 0, []⟩,
    ⟨some 61, .mv (.t 67), none, 0, []⟩,
    ⟨some 68, .ext 0 (.t 61), none, 0, []⟩,
    ⟨some 69, .ext 1 (.t 61), none, 0, []⟩,
    ⟨some 9, .mv (.t 68), none, 0, []⟩,
    ⟨some 4, .mv (.t 69), none, 0, []⟩])
  (.seq (.reg false [1, 3, 4, 5, 6, 7, 8, 9, 10, 11] [⟨some 71, .mv (.t 7), none, 0, []⟩,
    ⟨some 72, .mv (.t 8), none, 0, []⟩,
    ⟨some 73, .call (.f 42) [(.t 71), (.t 72)], none, 0, []⟩,
    ⟨some 70, .mv (.t 73), none, 0, []⟩,
    ⟨some 74, .ext 0 (.t 70), none, 0, []⟩,
    ⟨some 75, .ext 1 (.t 70), none, 0, []⟩,
    ⟨some 10, .mv (.t 74), none, 0, []⟩,
    ⟨some 11, .mv (.t 75), none, 0, []⟩])
  (.seq (.seq (.reg false [1, 3, 5, 6, 7, 8, 9, 106] [⟨some 76, .mv (.t 4), none, 0, []⟩,
    ⟨some 77, .bin .neq .num (.t 76) (.c (.int .i64 0)), none, 0, []⟩,
    ⟨some 78, .mv (.t 77), none, 0, []⟩,
    ⟨some 79, .mv (.t 11), some (78, false), 0, []⟩,
    ⟨some 80, .bin .neq .num (.t 79) (.c (.int .i64 0)), some (78, false), 0, []⟩,
    ⟨some 81, .pick (.t 78) (.c (.bool true)) (.t 80), none, 0, []⟩,
    ⟨some 82, .mv (.t 81), none, 0, []⟩,
    ⟨some 83, .mv (.t 9), some (82, false), 0, []⟩,
    ⟨some 84, .bin .eql .ptr (.t 83) (.c (.ptr none)), some (82, false), 0, []⟩,
    ⟨some 85, .pick (.t 82) (.c (.bool true)) (.t 84), none, 0, []⟩,
    ⟨some 86, .mv (.t 85), none, 0, []⟩,
    ⟨some 87, .mv (.t 10), some (86, false), 0, []⟩,
    ⟨some 88, .bin .eql .ptr (.t 87) (.c (.ptr none)), some (86, false), 0, []⟩,
    ⟨some 89, .pick (.t 86) (.c (.bool true)) (.t 88), none, 0, []⟩,
    ⟨some 90, .mv (.t 89), none, 0, []⟩,
    ⟨some 91, .mv (.t 10), some (90, false), 0, []⟩,
    ⟨some 92, .mv (.t 3), some (90, false), 0, []⟩,
    ⟨some 93, .mv (.t 5), some (90, false), 0, []⟩,
    ⟨some 94, .mv (.t 6), some (90, false), 0, []⟩,
    ⟨some 95, .mv (.t 7), some (90, false), 0, []⟩,
    ⟨some 96, .mv (.t 8), some (90, false), 0, []⟩,
    ⟨some 97, .call (.f 64) [(.t 91), (.t 92), (.t 93), (.t 94), (.t 95), (.t 96), (.c (.int .i64 0)), (.c (.int .i64 0)), (.c (.int .i64 0))], some (90, false), 0, []⟩,
    ⟨some 98, .bin .neq .num (.t 97) (.c (.int .i64 0)), some (90, false), 0, []⟩,
    ⟨some 99, .pick (.t 90) (.c (.bool true)) (.t 98), none, 0, []⟩,
    ⟨some 100, .mv (.t 99), none, 0, []⟩,
    ⟨some 101, .mv (.t 9), some (100, false), 0, []⟩,
    ⟨some 102, .mv (.t 10), some (100, false), 0, []⟩,
    ⟨some 103, .call (.f 45) [(.t 102)], some (100, false), 0, []⟩,
    ⟨some 104, .call (.f 101) [(.t 101), (.t 103)], some (100, false), 0, []⟩,
    ⟨some 105, .un .not (.t 104), some (100, false), 0, []⟩,
    ⟨some 106, .pick (.t 100) (.c (.bool true)) (.t 105), none, 0, []⟩])
  (.cond (.t 106) (.seq (.reg false [2] [⟨some 2, .mv (.c (.bool false)), none, 0, []⟩])
  (.ret))
  (.skip)))
  (.seq (.reg false [1, 3, 5, 6, 7, 8, 9, 12] [⟨some 107, .fad 6 (.t 1), none, 0, []⟩,
    ⟨some 108, .iad (some 8) 1 (.t 107) (.c (.int .i64 4)), none, 0, []⟩,
    ⟨some 109, .load none (.t 108), none, 0, []⟩,
    ⟨some 110, .mv (.t 7), none, 0, []⟩,
    ⟨some 111, .call (.f 29) [(.t 109), (.t 110)], none, 0, []⟩,
    ⟨some 12, .mv (.t 111), none, 0, []⟩])
  (.seq (.reg false [1, 3, 5, 6, 7, 8, 9, 12, 13] [⟨some 112, .fad 6 (.t 1), none, 0, []⟩,
    ⟨some 113, .iad (some 8) 1 (.t 112) (.c (.int .i64 5)), none, 0, []⟩,
    ⟨some 114, .load none (.t 113), none, 0, []⟩,
    ⟨some 115, .mv (.t 8), none, 0, []⟩,
    ⟨some 116, .call (.f 29) [(.t 114), (.t 115)], none, 0, []⟩,
    ⟨some 13, .mv (.t 116), none, 0, []⟩])
  (.seq (.reg false [1, 3, 4, 5, 6, 7, 8, 9, 12, 13, 14] [⟨some 118, .mv (.t 9), none, 0, []⟩,
    ⟨some 119, .mv (.t 12), none, 0, []⟩,
    ⟨some 120, .mv (.t 13), none, 0, []⟩,
    ⟨some 121, .mv (.t 7), none, 0, []⟩,
    ⟨some 122, .mv (.t 12), none, 0, []⟩,
    ⟨some 123, .bin .sub .num (.t 121) (.t 122), none, 0, []⟩,
    ⟨some 124, .mv (.t 8), none, 0, []⟩,
    ⟨some 125, .mv (.t 13), none, 0, []⟩,
    ⟨some 126, .bin .sub .num (.t 124) (.t 125), none, 0, []⟩,
    ⟨some 127, .call (.f 65) [(.t 118), (.t 119), (.t 120), (.t 123), (.t 126)], none, 0, []⟩,
    ⟨some 117, .mv (.t 127), none, 0, []⟩,
    ⟨some 128, .ext 0 (.t 117), none, 0, []⟩,
    ⟨some 129, .ext 1 (.t 117), none, 0, []⟩,
    ⟨some 14, .mv (.t 128), none, 0, []⟩,
    ⟨some 4, .mv (.t 129), none, 0, []⟩])
  (.seq (.reg false [1, 3, 4, 5, 6, 7, 8, 9, 11, 14, 15] [⟨some 131, .mv (.t 3), none, 0, []⟩,
    ⟨some 132, .mv (.t 5), none, 0, []⟩,
    ⟨some 133, .mv (.t 12), none, 0, []⟩,
    ⟨some 134, .bin .add .num (.t 132) (.t 133), none, 0, []⟩,
    ⟨some 135, .mv (.t 6), none, 0, []⟩,
    ⟨some 136, .mv (.t 13), none, 0, []⟩,
    ⟨some 137, .bin .add .num (.t 135) (.t 136), none, 0, []⟩,
    ⟨some 138, .mv (.t 7), none, 0, []⟩,
    ⟨some 139, .mv (.t 12), none, 0, []⟩,
    ⟨some 140, .bin .sub .num (.t 138) (.t 139), none, 0, []⟩,
    ⟨some 141, .mv (.t 8), none, 0, []⟩,
    ⟨some 142, .mv (.t 13), none, 0, []⟩,
    ⟨some 143, .bin .sub .num (.t 141) (.t 142), none, 0, []⟩,
    ⟨some 144, .call (.f 65) [(.t 131), (.t 134), (.t 137), (.t 140), (.t 143)], none, 0, []⟩,
    ⟨some 130, .mv (.t 144), none, 0, []⟩,
    ⟨some 145, .ext 0 (.t 130), none, 0, []⟩,
    ⟨some 146, .ext 1 (.t 130), none, 0, []⟩,
    ⟨some 15, .mv (.t 145), none, 0, []⟩,
    ⟨some 11, .mv (.t 146), none, 0, []⟩])
  (.seq (.seq (.reg false [1, 3, 5, 6, 7, 8, 9, 167] [⟨some 147, .mv (.t 4), none, 0, []⟩,
    ⟨some 148, .bin .neq .num (.t 147) (.c (.int .i64 0)), none, 0, []⟩,
    ⟨some 149, .mv (.t 148), none, 0, []⟩,
    ⟨some 150, .mv (.t 11), some (149, false), 0, []⟩,
    ⟨some 151, .bin .neq .num (.t 150) (.c (.int .i64 0)), some (149, false), 0, []⟩,
    ⟨some 152, .pick (.t 149) (.c (.bool true)) (.t 151), none, 0, []⟩,
    ⟨some 153, .mv (.t 152), none, 0, []⟩,
    ⟨some 154, .mv (.t 14), some (153, false), 0, []⟩,
    ⟨some 155, .bin .eql .ptr (.t 154) (.c (.ptr none)), some (153, false), 0, []⟩,
    ⟨some 156, .pick (.t 153) (.c (.bool true)) (.t 155), none, 0, []⟩,
    ⟨some 157, .mv (.t 156), none, 0, []⟩,
    ⟨some 158, .mv (.t 15), some (157, false), 0, []⟩,
    ⟨some 159, .bin .eql .ptr (.t 158) (.c (.ptr none)), some (157, false), 0, []⟩,
    ⟨some 160, .pick (.t 157) (.c (.bool true)) (.t 159), none, 0, []⟩,
    ⟨some 161, .mv (.t 160), none, 0, []⟩,
    ⟨some 162, .mv (.t 14), some (161, false), 0, []⟩,
    ⟨some 163, .mv (.t 15), some (161, false), 0, []⟩,
    ⟨some 164, .call (.f 45) [(.t 163)], some (161, false), 0, []⟩,
    ⟨some 165, .call (.f 101) [(.t 162), (.t 164)], some (161, false), 0, []⟩,
    ⟨some 166, .un .not (.t 165), some (161, false), 0, []⟩,
    ⟨some 167, .pick (.t 161) (.c (.bool true)) (.t 166), none, 0, []⟩])
  (.cond (.t 167) (.seq (.reg false [2] [⟨some 2, .mv (.c (.bool false)), none, 0, []⟩])
  (.ret))
  (.skip)))
  (.seq (.reg false [1, 3, 5, 6, 7, 8, 9, 16] [⟨some 16, .mv (.c (.int .i64 0)), none, 0, []⟩])
  (.seq (.seq (.reg false [1, 3, 5, 6, 7, 8, 9, 16, 17] [⟨some 17, .mv (.c (.int .i64 0)), none, 0, []⟩])
  (.block 0 (.loop [1, 3, 5, 6, 7, 8, 9, 16, 17] burinlaw2_BitmapCrops_l0)))
  (.seq (.reg false [2] [⟨some 189, .mv (.t 9), none, 0, []⟩,
    ⟨some 190, .call (.f 52) [(.t 189)], none, 0, []⟩,
    ⟨some 191, .mv (.t 16), none, 0, []⟩,
    ⟨some 192, .bin .eql .num (.t 190) (.t 191), none, 0, []⟩,
    ⟨some 193, .mv (.t 192), none, 0, []⟩,
    ⟨some 194, .mv (.t 3), some (193, true), 0, []⟩,
    ⟨some 195, .fad 0 (.t 1), some (193, true), 0, []⟩,
    ⟨some 196, .load (some 3) (.t 195), some (193, true), 0, []⟩,
    ⟨some 197, .call (.f 101) [(.t 194), (.t 196)], some (193, true), 0, []⟩,
    ⟨some 198, .pick (.t 193) (.t 197) (.c (.bool false)), none, 0, []⟩,
    ⟨some 199, .mv (.t 198), none, 0, []⟩,
    ⟨some 200, .call (.f 99) [], some (199, true), 0, []⟩,
    ⟨some 201, .pick (.t 199) (.t 200) (.c (.bool false)), none, 0, []⟩,
    ⟨some 2, .mv (.t 201), none, 0, []⟩])
  (.ret)))))))))))))))))))⟩

/-- A program that has them. -/
structure HasL2Crops (P : Prog) : Prop where
  h_burinlaw2_BitmapCrops : P 111 = some burinlaw2_BitmapCrops

end Go.Ab
