/- The texts of functions of the given program, for the abstract machine: written by wip/tools/gen.py out of Lean's print of the translation. Conditions: none; definitions alone. -/
import Derived.Test.YtdkgdneiilnppaaAb
set_option linter.all false
namespace Go.Ab
-- burinlaw2_BitmapOps: 110, parameters ?; loops burinlaw2_BitmapOps_l0 [1 ?, 3 ?, 4 ?, 5 ?, 8 ?, 12 ?, 14 ?]; burinlaw2_BitmapOps_l1 [1 ?, 3 ?, 4 ?, 5 ?, 8 ?, 9 ?]; burinlaw2_BitmapOps_l2 [1 ?, 3 ?, 4 ?, 5 ?, 6 ?]; burinlaw2_BitmapOps_l3 [1 ?, 3 ?, 4 ?, 5 ?, 6 ?, 7 ?]

def burinlaw2_BitmapOps_l3 : Cd := .seq (.seq (.reg false [1, 3, 4, 5, 6, 7, 46] [⟨some 44, .mv (.t 7), none, 0, []⟩,
    ⟨some 45, .mv (.t 3), none, 0, []⟩,
    ⟨some 46, .bin .lss .num (.t 44) (.t 45), none, 0, []⟩])
  (.cond (.t 46) (.skip)
  (.exit 2)))
  (.seq (.block 3 (.seq (.reg false [1, 3, 4, 5, 6, 7, 51] [⟨some 49, .fad 3 (.t 1), none, 0, []⟩,
    ⟨some 50, .load (some 3) (.t 49), none, 0, []⟩,
    ⟨some 51, .call (.f 76) [(.t 50)], none, 0, []⟩])
  (.cond (.t 51) (.reg true [1, 3, 4, 5, 6, 7] [⟨some 52, .load (some 3) (.t 5), none, 0, []⟩,
    ⟨some 53, .mv (.t 7), none, 1, []⟩,
    ⟨some 54, .mv (.t 6), none, 2, []⟩,
    ⟨some 55, .fad 3 (.t 1), none, 3, []⟩,
    ⟨some 56, .load (some 3) (.t 55), none, 4, []⟩,
    ⟨some 57, .mv (.t 7), none, 5, []⟩,
    ⟨some 58, .mv (.t 6), none, 6, []⟩,
    ⟨some 59, .call (.f 78) [(.t 56), (.t 57), (.t 58)], none, 7, [0]⟩,
    ⟨some 60, .call (.f 79) [(.t 52), (.t 53), (.t 54), (.t 59)], none, 8, []⟩])
  (.skip))))
  (.reg false [1, 3, 4, 5, 6, 7] [⟨some 47, .mv (.t 7), none, 0, []⟩,
    ⟨some 48, .bin .add .num (.t 47) (.c (.int .i64 1)), none, 0, []⟩,
    ⟨some 7, .mv (.t 48), none, 0, []⟩]))
def burinlaw2_BitmapOps_l2 : Cd := .seq (.seq (.reg false [1, 3, 4, 5, 6, 41] [⟨some 39, .mv (.t 6), none, 0, []⟩,
    ⟨some 40, .mv (.t 4), none, 0, []⟩,
    ⟨some 41, .bin .lss .num (.t 39) (.t 40), none, 0, []⟩])
  (.cond (.t 41) (.skip)
  (.exit 0)))
  (.seq (.block 1 (.seq (.reg false [1, 3, 4, 5, 6, 7] [⟨some 7, .mv (.c (.int .i64 0)), none, 0, []⟩])
  (.block 2 (.loop [1, 3, 4, 5, 6, 7] burinlaw2_BitmapOps_l3))))
  (.reg false [1, 3, 4, 5, 6] [⟨some 42, .mv (.t 6), none, 0, []⟩,
    ⟨some 43, .bin .add .num (.t 42) (.c (.int .i64 1)), none, 0, []⟩,
    ⟨some 6, .mv (.t 43), none, 0, []⟩]))
def burinlaw2_BitmapOps_l1 : Cd := .seq (.seq (.reg false [1, 3, 4, 5, 8, 9, 62] [⟨some 61, .mv (.t 9), none, 0, []⟩,
    ⟨some 62, .bin .lss .num (.t 61) (.c (.int .i64 7)), none, 0, []⟩])
  (.cond (.t 62) (.skip)
  (.exit 4)))
  (.seq (.block 5 (.seq (.reg false [1, 3, 4, 5, 8, 9, 10, 11] [⟨some 66, .fad 0 (.t 1), none, 0, []⟩,
    ⟨some 67, .load (some 3) (.t 66), none, 0, []⟩,
    ⟨some 68, .call (.f 44) [(.t 67)], none, 0, []⟩,
    ⟨some 65, .mv (.t 68), none, 0, []⟩,
    ⟨some 69, .ext 0 (.t 65), none, 0, []⟩,
    ⟨some 70, .ext 1 (.t 65), none, 0, []⟩,
    ⟨some 10, .mv (.t 69), none, 0, []⟩,
    ⟨some 11, .mv (.t 70), none, 0, []⟩])
  (.seq (.seq (.reg false [1, 3, 4, 5, 8, 9, 10, 76] [⟨some 71, .mv (.t 11), none, 0, []⟩,
    ⟨some 72, .bin .neq .num (.t 71) (.c (.int .i64 0)), none, 0, []⟩,
    ⟨some 73, .mv (.t 72), none, 0, []⟩,
    ⟨some 74, .mv (.t 10), some (73, false), 0, []⟩,
    ⟨some 75, .bin .eql .ptr (.t 74) (.c (.ptr none)), some (73, false), 0, []⟩,
    ⟨some 76, .pick (.t 73) (.c (.bool true)) (.t 75), none, 0, []⟩])
  (.cond (.t 76) (.seq (.reg false [2] [⟨some 2, .mv (.c (.bool false)), none, 0, []⟩])
  (.ret))
  (.skip)))
  (.reg false [1, 3, 4, 5, 8, 9] [⟨some 77, .mv (.t 8), none, 0, []⟩,
    ⟨some 78, .mv (.t 10), none, 0, []⟩,
    ⟨some 79, .bslice 1 [.ptr none] 1 [(0, (.t 78))], none, 0, []⟩,
    ⟨some 80, .append 1 8 (.t 77) (.t 79), none, 0, []⟩,
    ⟨some 8, .mv (.t 80), none, 0, []⟩]))))
  (.reg false [1, 3, 4, 5, 8, 9] [⟨some 63, .mv (.t 9), none, 0, []⟩,
    ⟨some 64, .bin .add .num (.t 63) (.c (.int .i64 1)), none, 0, []⟩,
    ⟨some 9, .mv (.t 64), none, 0, []⟩]))
def burinlaw2_BitmapOps_l0 : Cd := .seq (.seq (.reg false [1, 3, 4, 5, 8, 12, 14, 93] [⟨some 92, .mv (.t 14), none, 0, []⟩,
    ⟨some 93, .bin .lss .num (.t 92) (.c (.int .i64 5)), none, 0, []⟩])
  (.cond (.t 93) (.skip)
  (.exit 6)))
  (.seq (.block 7 (.seq (.reg false [1, 3, 4, 5, 8, 12, 14, 105] [⟨some 96, .mv (.t 8), none, 0, []⟩,
    ⟨some 97, .mv (.t 14), none, 0, []⟩,
    ⟨some 98, .iad none 1 (.t 96) (.t 97), none, 0, []⟩,
    ⟨some 99, .load none (.t 98), none, 0, []⟩,
    ⟨some 100, .mv (.t 12), none, 0, []⟩,
    ⟨some 101, .mv (.t 3), none, 0, []⟩,
    ⟨some 102, .mv (.t 4), none, 0, []⟩,
    ⟨some 103, .mv (.t 14), none, 0, []⟩,
    ⟨some 104, .call (.f 64) [(.t 99), (.t 100), (.c (.int .i64 0)), (.c (.int .i64 0)), (.t 101), (.t 102), (.c (.int .i64 0)), (.c (.int .i64 0)), (.t 103)], none, 0, []⟩,
    ⟨some 105, .bin .neq .num (.t 104) (.c (.int .i64 0)), none, 0, []⟩])
  (.cond (.t 105) (.seq (.reg false [2] [⟨some 2, .mv (.c (.bool false)), none, 0, []⟩])
  (.ret))
  (.skip))))
  (.reg false [1, 3, 4, 5, 8, 12, 14] [⟨some 94, .mv (.t 14), none, 0, []⟩,
    ⟨some 95, .bin .add .num (.t 94) (.c (.int .i64 1)), none, 0, []⟩,
    ⟨some 14, .mv (.t 95), none, 0, []⟩]))
/-- burin/burinlaw2.BitmapOps -/
def burinlaw2_BitmapOps : AFun := ⟨1, 237, true, [.t 2],
  .seq (.reg false [1] [⟨some 1, .box 14 (.t 0), none, 0, []⟩,
    ⟨some 2, .mv (.c (.bool false)), none, 0, []⟩])
  (.seq (.seq (.reg false [1, 28] [⟨some 18, .fad 0 (.t 1), none, 0, []⟩,
    ⟨some 19, .load (some 3) (.t 18), none, 0, []⟩,
    ⟨some 20, .call (.f 76) [(.t 19)], none, 0, []⟩,
    ⟨some 21, .un .not (.t 20), none, 0, []⟩,
    ⟨some 22, .mv (.t 21), none, 0, []⟩,
    ⟨some 23, .fad 0 (.t 1), some (22, false), 0, []⟩,
    ⟨some 24, .load (some 3) (.t 23), some (22, false), 0, []⟩,
    ⟨some 25, .bslice 3 [.int .i64 0, .int .i64 0, .sl none 0 0 0] 1 [(0, (.t 24))], some (22, false), 0, []⟩,
    ⟨some 26, .call (.f 98) [(.t 25), (.c (.int .i64 60000))], some (22, false), 0, []⟩,
    ⟨some 27, .un .not (.t 26), some (22, false), 0, []⟩,
    ⟨some 28, .pick (.t 22) (.c (.bool true)) (.t 27), none, 0, []⟩])
  (.cond (.t 28) (.seq (.reg false [2] [⟨some 29, .call (.f 99) [], none, 0, []⟩,
    ⟨some 2, .mv (.t 29), none, 0, []⟩])
  (.ret))
  (.skip)))
  (.seq (.reg false [1, 3] [⟨some 30, .fad 0 (.t 1), none, 0, []⟩,
    ⟨some 31, .fad 0 (.t 30), none, 0, []⟩,
    ⟨some 32, .load none (.t 31), none, 0, []⟩,
    ⟨some 3, .mv (.t 32), none, 0, []⟩])
  (.seq (.reg false [1, 3, 4] [⟨some 33, .fad 0 (.t 1), none, 0, []⟩,
    ⟨some 34, .fad 1 (.t 33), none, 0, []⟩,
    ⟨some 35, .load none (.t 34), none, 0, []⟩,
    ⟨some 4, .mv (.t 35), none, 0, []⟩])
  (.seq (.reg false [1, 3, 4, 5] [⟨some 36, .mv (.t 3), none, 0, []⟩,
    ⟨some 37, .mv (.t 4), none, 0, []⟩,
    ⟨some 38, .call (.f 77) [(.t 36), (.t 37)], none, 0, []⟩,
    ⟨some 5, .alloc [.int .i64 0, .int .i64 0, .sl none 0 0 0], none, 0, []⟩,
    ⟨none, .store 3 (.t 5) (.t 38), none, 0, []⟩])
  (.seq (.seq (.reg false [1, 3, 4, 5, 6] [⟨some 6, .mv (.c (.int .i64 0)), none, 0, []⟩])
  (.block 0 (.loop [1, 3, 4, 5, 6] burinlaw2_BitmapOps_l2)))
  (.seq (.reg false [1, 3, 4, 5, 8] [⟨some 8, .mv (.c (.sl none 0 0 0)), none, 0, []⟩])
  (.seq (.seq (.reg false [1, 3, 4, 5, 8, 9] [⟨some 9, .mv (.c (.int .i64 0)), none, 0, []⟩])
  (.block 4 (.loop [1, 3, 4, 5, 8, 9] burinlaw2_BitmapOps_l1)))
  (.seq (.reg false [1, 3, 4, 5, 8, 12, 13] [⟨some 82, .load (some 3) (.t 5), none, 0, []⟩,
    ⟨some 83, .call (.f 44) [(.t 82)], none, 0, []⟩,
    ⟨some 81, .mv (.t 83), none, 0, []⟩,
    ⟨some 84, .ext 0 (.t 81), none, 0, []⟩,
    ⟨some 85, .ext 1 (.t 81), none, 0, []⟩,
    ⟨some 12, .mv (.t 84), none, 0, []⟩,
    ⟨some 13, .mv (.t 85), none, 0, []⟩])
  (.seq (.seq (.reg false [1, 3, 4, 5, 8, 12, 91] [⟨some 86, .mv (.t 13), none, 0, []⟩,
    ⟨some 87, .bin .neq .num (.t 86) (.c (.int .i64 0)), none, 0, []⟩,
    ⟨some 88, .mv (.t 87), none, 0, []⟩,
    ⟨some 89, .mv (.t 12), some (88, false), 0, []⟩,
    ⟨some 90, .bin .eql .ptr (.t 89) (.c (.ptr none)), some (88, false), 0, []⟩,
    ⟨some 91, .pick (.t 88) (.c (.bool true)) (.t 90), none, 0, []⟩])
  (.cond (.t 91) (.seq (.reg false [2] [⟨some 2, .mv (.c (.bool false)), none, 0, []⟩])
  (.ret))
  (.skip)))
  (.seq (.seq (.reg false [1, 3, 4, 5, 8, 12, 14] [⟨some 14, .mv (.c (.int .i64 0)), none, 0, []⟩])
  (.block 6 (.loop [1, 3, 4, 5, 8, 12, 14] burinlaw2_BitmapOps_l0)))
  (.seq (.reg false [1, 3, 4, 5, 8, 12, 15] [⟨some 106, .mv (.t 8), none, 0, []⟩,
    ⟨some 107, .iad none 1 (.t 106) (.c (.int .i64 0)), none, 0, []⟩,
    ⟨some 108, .load none (.t 107), none, 0, []⟩,
    ⟨some 109, .call (.f 45) [(.t 108)], none, 0, []⟩,
    ⟨some 15, .alloc [.int .i64 0, .int .i64 0, .sl none 0 0 0], none, 0, []⟩,
    ⟨none, .store 3 (.t 15) (.t 109), none, 0, []⟩])
  (.seq (.reg false [1, 3, 4, 5, 8, 12, 15, 16] [⟨some 110, .mv (.t 8), none, 0, []⟩,
    ⟨some 111, .iad none 1 (.t 110) (.c (.int .i64 1)), none, 0, []⟩,
    ⟨some 112, .load none (.t 111), none, 0, []⟩,
    ⟨some 113, .call (.f 45) [(.t 112)], none, 0, []⟩,
    ⟨some 16, .alloc [.int .i64 0, .int .i64 0, .sl none 0 0 0], none, 0, []⟩,
    ⟨none, .store 3 (.t 16) (.t 113), none, 0, []⟩])
  (.seq (.reg false [1, 3, 4, 5, 8, 12, 15, 16, 17] [⟨some 114, .mv (.t 8), none, 0, []⟩,
    ⟨some 115, .iad none 1 (.t 114) (.c (.int .i64 2)), none, 0, []⟩,
    ⟨some 116, .load none (.t 115), none, 0, []⟩,
    ⟨some 117, .call (.f 45) [(.t 116)], none, 0, []⟩,
    ⟨some 17, .alloc [.int .i64 0, .int .i64 0, .sl none 0 0 0], none, 0, []⟩,
    ⟨none, .store 3 (.t 17) (.t 117), none, 0, []⟩])
  (.seq (.reg false [1, 3, 4, 5, 8, 12, 15, 16, 17] [⟨some 118, .mv (.t 8), none, 0, []⟩,
    ⟨some 119, .iad none 1 (.t 118) (.c (.int .i64 3)), none, 0, []⟩,
    ⟨some 120, .load none (.t 119), none, 0, []⟩,
    ⟨some 121, .call (.f 66) [(.t 120)], none, 0, []⟩])
  (.seq (.seq (.reg true [1, 3, 4, 5, 8, 12, 15, 16, 17, 135] [⟨some 122, .mv (.t 8), none, 0, []⟩,
    ⟨some 123, .iad none 1 (.t 122) (.c (.int .i64 3)), none, 1, []⟩,
    ⟨some 124, .load none (.t 123), none, 2, []⟩,
    ⟨some 125, .load (some 3) (.t 17), none, 3, []⟩,
    ⟨some 126, .call (.f 101) [(.t 124), (.t 125)], none, 4, []⟩,
    ⟨some 127, .un .not (.t 126), none, 5, []⟩,
    ⟨some 128, .mv (.t 127), none, 6, []⟩,
    ⟨some 129, .mv (.t 8), some (128, false), 7, []⟩,
    ⟨some 130, .iad none 1 (.t 129) (.c (.int .i64 4)), some (128, false), 8, []⟩,
    ⟨some 131, .load none (.t 130), some (128, false), 9, []⟩,
    ⟨some 132, .load (some 3) (.t 5), some (128, false), 10, []⟩,
    ⟨some 133, .call (.f 101) [(.t 131), (.t 132)], some (128, false), 11, []⟩,
    ⟨some 134, .un .not (.t 133), some (128, false), 12, []⟩,
    ⟨some 135, .pick (.t 128) (.c (.bool true)) (.t 134), none, 13, []⟩])
  (.cond (.t 135) (.seq (.reg false [2] [⟨some 2, .mv (.c (.bool false)), none, 0, []⟩])
  (.ret))
  (.skip)))
  (.seq (.seq (.reg false [1, 3, 4, 5, 8, 12, 15, 16, 17, 163] [⟨some 136, .mv (.t 8), none, 0, []⟩,
    ⟨some 137, .iad none 1 (.t 136) (.c (.int .i64 0)), none, 0, []⟩,
    ⟨some 138, .load none (.t 137), none, 0, []⟩,
    ⟨some 139, .mv (.t 12), none, 0, []⟩,
    ⟨some 140, .mv (.t 3), none, 0, []⟩,
    ⟨some 141, .mv (.t 4), none, 0, []⟩,
    ⟨some 142, .call (.f 64) [(.t 138), (.t 139), (.c (.int .i64 0)), (.c (.int .i64 0)), (.t 140), (.t 141), (.c (.int .i64 0)), (.c (.int .i64 0)), (.c (.int .i64 0))], none, 0, []⟩,
    ⟨some 143, .bin .neq .num (.t 142) (.c (.int .i64 0)), none, 0, []⟩,
    ⟨some 144, .mv (.t 143), none, 0, []⟩,
    ⟨some 145, .mv (.t 8), some (144, false), 0, []⟩,
    ⟨some 146, .iad none 1 (.t 145) (.c (.int .i64 1)), some (144, false), 0, []⟩,
    ⟨some 147, .load none (.t 146), some (144, false), 0, []⟩,
    ⟨some 148, .mv (.t 12), some (144, false), 0, []⟩,
    ⟨some 149, .mv (.t 3), some (144, false), 0, []⟩,
    ⟨some 150, .mv (.t 4), some (144, false), 0, []⟩,
    ⟨some 151, .call (.f 64) [(.t 147), (.t 148), (.c (.int .i64 0)), (.c (.int .i64 0)), (.t 149), (.t 150), (.c (.int .i64 0)), (.c (.int .i64 0)), (.c (.int .i64 1))], some (144, false), 0, []⟩,
    ⟨some 152, .bin .neq .num (.t 151) (.c (.int .i64 0)), some (144, false), 0, []⟩,
    ⟨some 153, .pick (.t 144) (.c (.bool true)) (.t 152), none, 0, []⟩,
    ⟨some 154, .mv (.t 153), none, 0, []⟩,
    ⟨some 155, .mv (.t 8), some (154, false), 0, []⟩,
    ⟨some 156, .iad none 1 (.t 155) (.c (.int .i64 2)), some (154, false), 0, []⟩,
    ⟨some 157, .load none (.t 156), some (154, false), 0, []⟩,
    ⟨some 158, .mv (.t 12), some (154, false), 0, []⟩,
    ⟨some 159, .mv (.t 3), some (154, false), 0, []⟩,
    ⟨some 160, .mv (.t 4), some (154, false), 0, []⟩,
    ⟨some 161, .call (.f 64) [(.t 157), (.t 158), (.c (.int .i64 0)), (.c (.int .i64 0)), (.t 159), (.t 160), (.c (.int .i64 0)), (.c (.int .i64 0)), (.c (.int .i64 2))], some (154, false), 0, []⟩,
    ⟨some 162, .bin .neq .num (.t 161) (.c (.int .i64 0)), some (154, false), 0, []⟩,
    ⟨some 163, .pick (.t 154) (.c (.bool true)) (.t 162), none, 0, []⟩])
  (.cond (.t 163) (.seq (.reg false [2] [⟨some 2, .mv (.c (.bool false)), none, 0, []⟩])
  (.ret))
  (.skip)))
  (.seq (.seq (.reg true [1, 3, 4, 5, 8, 12, 15, 16, 17, 186] [⟨some 164, .mv (.t 8), none, 0, []⟩,
    ⟨some 165, .iad none 1 (.t 164) (.c (.int .i64 0)), none, 1, []⟩,
    ⟨some 166, .load none (.t 165), none, 2, []⟩,
    ⟨some 167, .load (some 3) (.t 15), none, 3, []⟩,
    ⟨some 168, .call (.f 101) [(.t 166), (.t 167)], none, 4, []⟩,
    ⟨some 169, .un .not (.t 168), none, 5, []⟩,
    ⟨some 170, .mv (.t 169), none, 6, []⟩,
    ⟨some 171, .mv (.t 8), some (170, false), 7, []⟩,
    ⟨some 172, .iad none 1 (.t 171) (.c (.int .i64 1)), some (170, false), 8, []⟩,
    ⟨some 173, .load none (.t 172), some (170, false), 9, []⟩,
    ⟨some 174, .load (some 3) (.t 16), some (170, false), 10, []⟩,
    ⟨some 175, .call (.f 101) [(.t 173), (.t 174)], some (170, false), 11, []⟩,
    ⟨some 176, .un .not (.t 175), some (170, false), 12, []⟩,
    ⟨some 177, .pick (.t 170) (.c (.bool true)) (.t 176), none, 13, []⟩,
    ⟨some 178, .mv (.t 177), none, 14, []⟩,
    ⟨some 179, .mv (.t 8), some (178, false), 15, []⟩,
    ⟨some 180, .iad none 1 (.t 179) (.c (.int .i64 2)), some (178, false), 16, []⟩,
    ⟨some 181, .load none (.t 180), some (178, false), 17, []⟩,
    ⟨some 182, .fad 0 (.t 1), some (178, false), 18, []⟩,
    ⟨some 183, .load (some 3) (.t 182), some (178, false), 19, []⟩,
    ⟨some 184, .call (.f 101) [(.t 181), (.t 183)], some (178, false), 20, []⟩,
    ⟨some 185, .un .not (.t 184), some (178, false), 21, []⟩,
    ⟨some 186, .pick (.t 178) (.c (.bool true)) (.t 185), none, 22, []⟩])
  (.cond (.t 186) (.seq (.reg false [2] [⟨some 2, .mv (.c (.bool false)), none, 0, []⟩])
  (.ret))
  (.skip)))
  (.seq (.reg false [1, 3, 4, 5, 8, 12, 15, 16, 17] [⟨some 187, .mv (.t 8), none, 0, []⟩,
    ⟨some 188, .iad none 1 (.t 187) (.c (.int .i64 5)), none, 0, []⟩,
    ⟨some 189, .load none (.t 188), none, 0, []⟩,
    ⟨some 190, .call (.f 66) [(.t 189)], none, 0, []⟩])
  (.seq (.reg false [1, 3, 4, 5, 8, 12, 15, 16, 17] [⟨some 191, .mv (.t 12), none, 0, []⟩,
    ⟨some 192, .call (.f 66) [(.t 191)], none, 0, []⟩])
  (.seq (.seq (.reg false [1, 5, 8, 15, 16, 17, 200] [⟨some 193, .mv (.t 8), none, 0, []⟩,
    ⟨some 194, .iad none 1 (.t 193) (.c (.int .i64 5)), none, 0, []⟩,
    ⟨some 195, .load none (.t 194), none, 0, []⟩,
    ⟨some 196, .mv (.t 12), none, 0, []⟩,
    ⟨some 197, .mv (.t 3), none, 0, []⟩,
    ⟨some 198, .mv (.t 4), none, 0, []⟩,
    ⟨some 199, .call (.f 64) [(.t 195), (.t 196), (.c (.int .i64 0)), (.c (.int .i64 0)), (.t 197), (.t 198), (.c (.int .i64 0)), (.c (.int .i64 0)), (.c (.int .i64 1))], none, 0, []⟩,
    ⟨some 200, .bin .neq .num (.t 199) (.c (.int .i64 0)), none, 0, []⟩])
  (.cond (.t 200) (.seq (.reg false [2] [⟨some 2, .mv (.c (.bool false)), none, 0, []⟩])
  (.ret))
  (.skip)))
  (.seq (.reg false [1, 5, 8, 15, 16, 17] [⟨some 201, .mv (.t 8), none, 0, []⟩,
    ⟨some 202, .iad none 1 (.t 201) (.c (.int .i64 5)), none, 0, []⟩,
    ⟨some 203, .load none (.t 202), none, 0, []⟩,
    ⟨some 204, .call (.f 66) [(.t 203)], none, 0, []⟩])
  (.seq (.reg true [2] [⟨some 205, .mv (.t 8), none, 0, []⟩,
    ⟨some 206, .iad none 1 (.t 205) (.c (.int .i64 5)), none, 1, []⟩,
    ⟨some 207, .load none (.t 206), none, 2, []⟩,
    ⟨some 208, .load (some 3) (.t 15), none, 3, []⟩,
    ⟨some 209, .call (.f 101) [(.t 207), (.t 208)], none, 4, []⟩,
    ⟨some 210, .mv (.t 209), none, 5, []⟩,
    ⟨some 211, .load (some 3) (.t 15), some (210, true), 6, []⟩,
    ⟨some 213, .load (some 3) (.t 16), some (210, true), 8, []⟩,
    ⟨some 216, .fad 0 (.t 1), some (210, true), 11, []⟩,
    ⟨some 217, .load (some 3) (.t 216), some (210, true), 12, []⟩,
    ⟨some 219, .load (some 3) (.t 5), some (210, true), 14, []⟩,
    ⟨some 212, .call (.f 81) [(.t 211)], some (210, true), 7, [8, 12, 14]⟩,
    ⟨some 214, .call (.f 81) [(.t 213)], some (210, true), 9, [12, 14]⟩,
    ⟨some 215, .bin .add .num (.t 212) (.t 214), some (210, true), 10, []⟩,
    ⟨some 218, .call (.f 81) [(.t 217)], some (210, true), 13, [14]⟩,
    ⟨some 220, .call (.f 81) [(.t 219)], some (210, true), 15, []⟩,
    ⟨some 221, .bin .add .num (.t 218) (.t 220), some (210, true), 16, []⟩,
    ⟨some 222, .bin .eql .num (.t 215) (.t 221), some (210, true), 17, []⟩,
    ⟨some 223, .pick (.t 210) (.t 222) (.c (.bool false)), none, 18, []⟩,
    ⟨some 224, .mv (.t 223), none, 19, []⟩,
    ⟨some 225, .load (some 3) (.t 15), some (224, true), 20, []⟩,
    ⟨some 227, .load (some 3) (.t 16), some (224, true), 22, []⟩,
    ⟨some 230, .load (some 3) (.t 17), some (224, true), 25, []⟩,
    ⟨some 226, .call (.f 81) [(.t 225)], some (224, true), 21, [22, 25]⟩,
    ⟨some 228, .call (.f 81) [(.t 227)], some (224, true), 23, [25]⟩,
    ⟨some 229, .bin .sub .num (.t 226) (.t 228), some (224, true), 24, []⟩,
    ⟨some 231, .call (.f 81) [(.t 230)], some (224, true), 26, []⟩,
    ⟨some 232, .bin .eql .num (.t 229) (.t 231), some (224, true), 27, []⟩,
    ⟨some 233, .pick (.t 224) (.t 232) (.c (.bool false)), none, 28, []⟩,
    ⟨some 234, .mv (.t 233), none, 29, []⟩,
    ⟨some 235, .call (.f 99) [], some (234, true), 30, []⟩,
    ⟨some 236, .pick (.t 234) (.t 235) (.c (.bool false)), none, 31, []⟩,
    ⟨some 2, .mv (.t 236), none, 32, []⟩])
  (.ret)))))))))))))))))))))))⟩

/-- A program that has them. -/
structure HasL2Ops (P : Prog) : Prop where
  h_burinlaw2_BitmapOps : P 110 = some burinlaw2_BitmapOps

end Go.Ab
