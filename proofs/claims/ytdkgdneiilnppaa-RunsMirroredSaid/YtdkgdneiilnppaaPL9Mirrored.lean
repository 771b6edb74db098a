/- The texts of functions of the given program, for the abstract machine: written by wip/tools/gen.py out of Lean's print of the translation. Conditions: none; definitions alone. -/
import Derived.Test.YtdkgdneiilnppaaK1
set_option linter.all false
namespace Go.Ab
-- burinlaw9_RunsMirrored: 127, parameters ?; loops burinlaw9_RunsMirrored_l0 [1 ?, 4 ?, 6 ?, 8 ?, 10 ?]; burinlaw9_RunsMirrored_l1 [1 ?, 4 ?, 6 ?, 8 ?, 10 ?, 11 ?, 12 ?, 13 ?]

def burinlaw9_RunsMirrored_l1 : Cd := .seq (.seq (.reg false [1, 4, 6, 8, 10, 11, 12, 13, 100] [⟨some 94, .mv (.t 13), none, 0, []⟩,
    ⟨some 95, .mv (.t 4), none, 0, []⟩,
    ⟨some 96, .mv (.t 10), none, 0, []⟩,
    ⟨some 97, .iad none 1 (.t 95) (.t 96), none, 0, []⟩,
    ⟨some 98, .load none (.t 97), none, 0, []⟩,
    ⟨some 99, .len none (.t 98), none, 0, []⟩,
    ⟨some 100, .bin .lss .num (.t 94) (.t 99), none, 0, []⟩])
  (.cond (.t 100) (.skip)
  (.exit 2)))
  (.seq (.block 3 (.seq (.reg false [1, 4, 6, 8, 10, 11, 12, 13, 14] [⟨some 103, .mv (.t 4), none, 0, []⟩,
    ⟨some 104, .mv (.t 10), none, 0, []⟩,
    ⟨some 105, .iad none 1 (.t 103) (.t 104), none, 0, []⟩,
    ⟨some 106, .load none (.t 105), none, 0, []⟩,
    ⟨some 107, .mv (.t 13), none, 0, []⟩,
    ⟨some 108, .iad none 2 (.t 106) (.t 107), none, 0, []⟩,
    ⟨some 109, .load (some 2) (.t 108), none, 0, []⟩,
    ⟨some 14, .alloc [.int .i64 0, .int .i64 0], none, 0, []⟩,
    ⟨none, .store 2 (.t 14) (.t 109), none, 0, []⟩])
  (.seq (.reg true [1, 4, 6, 8, 10, 11, 12, 13, 14, 15] [⟨some 110, .mv (.t 6), none, 0, []⟩,
    ⟨some 111, .mv (.t 10), none, 1, []⟩,
    ⟨some 112, .iad none 1 (.t 110) (.t 111), none, 2, []⟩,
    ⟨some 113, .load none (.t 112), none, 3, []⟩,
    ⟨some 114, .mv (.t 4), none, 4, []⟩,
    ⟨some 115, .mv (.t 10), none, 5, []⟩,
    ⟨some 116, .iad none 1 (.t 114) (.t 115), none, 6, []⟩,
    ⟨some 117, .load none (.t 116), none, 7, []⟩,
    ⟨some 118, .len none (.t 117), none, 8, []⟩,
    ⟨some 119, .bin .sub .num (.t 118) (.c (.int .i64 1)), none, 9, []⟩,
    ⟨some 120, .mv (.t 13), none, 10, []⟩,
    ⟨some 121, .bin .sub .num (.t 119) (.t 120), none, 11, []⟩,
    ⟨some 122, .iad none 2 (.t 113) (.t 121), none, 12, []⟩,
    ⟨some 123, .load (some 2) (.t 122), none, 13, []⟩,
    ⟨some 15, .alloc [.int .i64 0, .int .i64 0], none, 14, []⟩,
    ⟨none, .store 2 (.t 15) (.t 123), none, 15, []⟩])
  (.seq (.seq (.reg false [1, 4, 6, 8, 10, 11, 12, 13, 14, 141] [⟨some 124, .fad 0 (.t 15), none, 0, []⟩,
    ⟨some 125, .load none (.t 124), none, 0, []⟩,
    ⟨some 126, .fad 0 (.t 1), none, 0, []⟩,
    ⟨some 127, .load none (.t 126), none, 0, []⟩,
    ⟨some 128, .fad 1 (.t 14), none, 0, []⟩,
    ⟨some 129, .load none (.t 128), none, 0, []⟩,
    ⟨some 130, .bin .sub .num (.t 127) (.t 129), none, 0, []⟩,
    ⟨some 131, .bin .neq .num (.t 125) (.t 130), none, 0, []⟩,
    ⟨some 132, .mv (.t 131), none, 0, []⟩,
    ⟨some 133, .fad 1 (.t 15), some (132, false), 0, []⟩,
    ⟨some 134, .load none (.t 133), some (132, false), 0, []⟩,
    ⟨some 135, .fad 0 (.t 1), some (132, false), 0, []⟩,
    ⟨some 136, .load none (.t 135), some (132, false), 0, []⟩,
    ⟨some 137, .fad 0 (.t 14), some (132, false), 0, []⟩,
    ⟨some 138, .load none (.t 137), some (132, false), 0, []⟩,
    ⟨some 139, .bin .sub .num (.t 136) (.t 138), some (132, false), 0, []⟩,
    ⟨some 140, .bin .neq .num (.t 134) (.t 139), some (132, false), 0, []⟩,
    ⟨some 141, .pick (.t 132) (.c (.bool true)) (.t 140), none, 0, []⟩])
  (.cond (.t 141) (.seq (.reg false [2] [⟨some 2, .mv (.c (.bool false)), none, 0, []⟩])
  (.ret))
  (.skip)))
  (.seq (.seq (.reg false [1, 4, 6, 8, 10, 11, 12, 13, 14, 145] [⟨some 142, .fad 0 (.t 14), none, 0, []⟩,
    ⟨some 143, .load none (.t 142), none, 0, []⟩,
    ⟨some 144, .mv (.t 11), none, 0, []⟩,
    ⟨some 145, .bin .gtr .num (.t 143) (.t 144), none, 0, []⟩])
  (.cond (.t 145) (.seq (.seq (.reg true [1, 4, 6, 8, 10, 12, 13, 14, 166] [⟨some 146, .mv (.t 12), none, 0, []⟩,
    ⟨some 147, .mv (.t 8), none, 1, []⟩,
    ⟨some 148, .mv (.t 10), none, 2, []⟩,
    ⟨some 149, .iad none 1 (.t 147) (.t 148), none, 3, []⟩,
    ⟨some 150, .load none (.t 149), none, 4, []⟩,
    ⟨some 151, .len none (.t 150), none, 5, []⟩,
    ⟨some 152, .bin .geq .num (.t 146) (.t 151), none, 6, []⟩,
    ⟨some 153, .mv (.t 152), none, 7, []⟩,
    ⟨some 154, .mv (.t 8), some (153, false), 8, []⟩,
    ⟨some 155, .mv (.t 10), some (153, false), 9, []⟩,
    ⟨some 156, .iad none 1 (.t 154) (.t 155), some (153, false), 10, []⟩,
    ⟨some 157, .load none (.t 156), some (153, false), 11, []⟩,
    ⟨some 158, .mv (.t 12), some (153, false), 12, []⟩,
    ⟨some 159, .iad none 2 (.t 157) (.t 158), some (153, false), 13, []⟩,
    ⟨some 160, .load (some 2) (.t 159), some (153, false), 14, []⟩,
    ⟨some 161, .mv (.t 11), some (153, false), 15, []⟩,
    ⟨some 162, .fad 0 (.t 14), some (153, false), 16, []⟩,
    ⟨some 163, .load none (.t 162), some (153, false), 17, []⟩,
    ⟨some 164, .build [.int .i64 0, .int .i64 0] [(0, 1, (.t 161)), (1, 1, (.t 163))], some (153, false), 18, []⟩,
    ⟨some 165, .bin .neq (.agg [(0, .num), (1, .num)]) (.t 160) (.t 164), some (153, false), 19, []⟩,
    ⟨some 166, .pick (.t 153) (.c (.bool true)) (.t 165), none, 20, []⟩])
  (.cond (.t 166) (.seq (.reg false [2] [⟨some 2, .mv (.c (.bool false)), none, 0, []⟩])
  (.ret))
  (.skip)))
  (.reg false [1, 4, 6, 8, 10, 12, 13, 14] [⟨some 167, .mv (.t 12), none, 0, []⟩,
    ⟨some 168, .bin .add .num (.t 167) (.c (.int .i64 1)), none, 0, []⟩,
    ⟨some 12, .mv (.t 168), none, 0, []⟩]))
  (.skip)))
  (.reg false [1, 4, 6, 8, 10, 11, 12, 13] [⟨some 169, .fad 1 (.t 14), none, 0, []⟩,
    ⟨some 170, .load none (.t 169), none, 0, []⟩,
    ⟨some 11, .mv (.t 170), none, 0, []⟩]))))))
  (.reg false [1, 4, 6, 8, 10, 11, 12, 13] [⟨some 101, .mv (.t 13), none, 0, []⟩,
    ⟨some 102, .bin .add .num (.t 101) (.c (.int .i64 1)), none, 0, []⟩,
    ⟨some 13, .mv (.t 102), none, 0, []⟩]))
def burinlaw9_RunsMirrored_l0 : Cd := .seq (.seq (.reg false [1, 4, 6, 8, 10, 80] [⟨some 77, .mv (.t 10), none, 0, []⟩,
    ⟨some 78, .fad 1 (.t 1), none, 0, []⟩,
    ⟨some 79, .load none (.t 78), none, 0, []⟩,
    ⟨some 80, .bin .lss .num (.t 77) (.t 79), none, 0, []⟩])
  (.cond (.t 80) (.skip)
  (.exit 0)))
  (.seq (.block 1 (.seq (.seq (.reg true [1, 4, 6, 8, 10, 93] [⟨some 83, .mv (.t 6), none, 0, []⟩,
    ⟨some 84, .mv (.t 10), none, 1, []⟩,
    ⟨some 85, .iad none 1 (.t 83) (.t 84), none, 2, []⟩,
    ⟨some 86, .load none (.t 85), none, 3, []⟩,
    ⟨some 87, .len none (.t 86), none, 4, []⟩,
    ⟨some 88, .mv (.t 4), none, 5, []⟩,
    ⟨some 89, .mv (.t 10), none, 6, []⟩,
    ⟨some 90, .iad none 1 (.t 88) (.t 89), none, 7, []⟩,
    ⟨some 91, .load none (.t 90), none, 8, []⟩,
    ⟨some 92, .len none (.t 91), none, 9, []⟩,
    ⟨some 93, .bin .neq .num (.t 87) (.t 92), none, 10, []⟩])
  (.cond (.t 93) (.seq (.reg false [2] [⟨some 2, .mv (.c (.bool false)), none, 0, []⟩])
  (.ret))
  (.skip)))
  (.seq (.reg false [1, 4, 6, 8, 10, 11] [⟨some 11, .mv (.c (.int .i64 0)), none, 0, []⟩])
  (.seq (.reg false [1, 4, 6, 8, 10, 11, 12] [⟨some 12, .mv (.c (.int .i64 0)), none, 0, []⟩])
  (.seq (.seq (.reg false [1, 4, 6, 8, 10, 11, 12, 13] [⟨some 13, .mv (.c (.int .i64 0)), none, 0, []⟩])
  (.block 2 (.loop [1, 4, 6, 8, 10, 11, 12, 13] burinlaw9_RunsMirrored_l1)))
  (.seq (.seq (.reg false [1, 4, 6, 8, 10, 11, 12, 174] [⟨some 171, .mv (.t 11), none, 0, []⟩,
    ⟨some 172, .fad 0 (.t 1), none, 0, []⟩,
    ⟨some 173, .load none (.t 172), none, 0, []⟩,
    ⟨some 174, .bin .lss .num (.t 171) (.t 173), none, 0, []⟩])
  (.cond (.t 174) (.seq (.seq (.reg true [1, 4, 6, 8, 10, 12, 195] [⟨some 175, .mv (.t 12), none, 0, []⟩,
    ⟨some 176, .mv (.t 8), none, 1, []⟩,
    ⟨some 177, .mv (.t 10), none, 2, []⟩,
    ⟨some 178, .iad none 1 (.t 176) (.t 177), none, 3, []⟩,
    ⟨some 179, .load none (.t 178), none, 4, []⟩,
    ⟨some 180, .len none (.t 179), none, 5, []⟩,
    ⟨some 181, .bin .geq .num (.t 175) (.t 180), none, 6, []⟩,
    ⟨some 182, .mv (.t 181), none, 7, []⟩,
    ⟨some 183, .mv (.t 8), some (182, false), 8, []⟩,
    ⟨some 184, .mv (.t 10), some (182, false), 9, []⟩,
    ⟨some 185, .iad none 1 (.t 183) (.t 184), some (182, false), 10, []⟩,
    ⟨some 186, .load none (.t 185), some (182, false), 11, []⟩,
    ⟨some 187, .mv (.t 12), some (182, false), 12, []⟩,
    ⟨some 188, .iad none 2 (.t 186) (.t 187), some (182, false), 13, []⟩,
    ⟨some 189, .load (some 2) (.t 188), some (182, false), 14, []⟩,
    ⟨some 190, .mv (.t 11), some (182, false), 15, []⟩,
    ⟨some 191, .fad 0 (.t 1), some (182, false), 16, []⟩,
    ⟨some 192, .load none (.t 191), some (182, false), 17, []⟩,
    ⟨some 193, .build [.int .i64 0, .int .i64 0] [(0, 1, (.t 190)), (1, 1, (.t 192))], some (182, false), 18, []⟩,
    ⟨some 194, .bin .neq (.agg [(0, .num), (1, .num)]) (.t 189) (.t 193), some (182, false), 19, []⟩,
    ⟨some 195, .pick (.t 182) (.c (.bool true)) (.t 194), none, 20, []⟩])
  (.cond (.t 195) (.seq (.reg false [2] [⟨some 2, .mv (.c (.bool false)), none, 0, []⟩])
  (.ret))
  (.skip)))
  (.reg false [1, 4, 6, 8, 10, 12] [⟨some 196, .mv (.t 12), none, 0, []⟩,
    ⟨some 197, .bin .add .num (.t 196) (.c (.int .i64 1)), none, 0, []⟩,
    ⟨some 12, .mv (.t 197), none, 0, []⟩]))
  (.skip)))
  (.seq (.reg false [1, 4, 6, 8, 10, 204] [⟨some 198, .mv (.t 12), none, 0, []⟩,
    ⟨some 199, .mv (.t 8), none, 0, []⟩,
    ⟨some 200, .mv (.t 10), none, 0, []⟩,
    ⟨some 201, .iad none 1 (.t 199) (.t 200), none, 0, []⟩,
    ⟨some 202, .load none (.t 201), none, 0, []⟩,
    ⟨some 203, .len none (.t 202), none, 0, []⟩,
    ⟨some 204, .bin .neq .num (.t 198) (.t 203), none, 0, []⟩])
  (.cond (.t 204) (.seq (.reg false [2] [⟨some 2, .mv (.c (.bool false)), none, 0, []⟩])
  (.ret))
  (.skip)))))))))
  (.reg false [1, 4, 6, 8, 10] [⟨some 81, .mv (.t 10), none, 0, []⟩,
    ⟨some 82, .bin .add .num (.t 81) (.c (.int .i64 1)), none, 0, []⟩,
    ⟨some 10, .mv (.t 82), none, 0, []⟩]))
/-- burin/burinlaw9.RunsMirrored -/
def burinlaw9_RunsMirrored : AFun := ⟨1, 206, true, [.t 2],
  .seq (.reg false [1] [⟨some 1, .box 3 (.t 0), none, 0, []⟩,
    ⟨some 2, .mv (.c (.bool false)), none, 0, []⟩])
  (.seq (.seq (.reg false [1, 24] [⟨some 16, .load (some 3) (.t 1), none, 0, []⟩,
    ⟨some 17, .call (.f 76) [(.t 16)], none, 0, []⟩,
    ⟨some 18, .un .not (.t 17), none, 0, []⟩,
    ⟨some 19, .mv (.t 18), none, 0, []⟩,
    ⟨some 20, .load (some 3) (.t 1), some (19, false), 0, []⟩,
    ⟨some 21, .bslice 3 [.int .i64 0, .int .i64 0, .sl none 0 0 0] 1 [(0, (.t 20))], some (19, false), 0, []⟩,
    ⟨some 22, .call (.f 98) [(.t 21), (.c (.int .i64 60000))], some (19, false), 0, []⟩,
    ⟨some 23, .un .not (.t 22), some (19, false), 0, []⟩,
    ⟨some 24, .pick (.t 19) (.c (.bool true)) (.t 23), none, 0, []⟩])
  (.cond (.t 24) (.seq (.reg false [2] [⟨some 25, .call (.f 122) [], none, 0, []⟩,
    ⟨some 2, .mv (.t 25), none, 0, []⟩])
  (.ret))
  (.skip)))
  (.seq (.reg false [1, 3] [⟨some 26, .load (some 3) (.t 1), none, 0, []⟩,
    ⟨some 27, .call (.f 82) [(.t 26)], none, 0, []⟩,
    ⟨some 3, .alloc [.int .i64 0, .int .i64 0, .sl none 0 0 0], none, 0, []⟩,
    ⟨none, .store 3 (.t 3) (.t 27), none, 0, []⟩])
  (.seq (.reg false [1, 3] [⟨some 28, .load (some 3) (.t 3), none, 0, []⟩,
    ⟨some 29, .call (.f 94) [(.t 28)], none, 0, []⟩])
  (.seq (.reg false [1, 3, 4, 5] [⟨some 31, .load (some 3) (.t 1), none, 0, []⟩,
    ⟨some 32, .call (.f 115) [(.t 31)], none, 0, []⟩,
    ⟨some 30, .mv (.t 32), none, 0, []⟩,
    ⟨some 33, .ext 0 (.t 30), none, 0, []⟩,
    ⟨some 34, .ext 1 (.t 30), none, 0, []⟩,
    ⟨some 4, .mv (.t 33), none, 0, []⟩,
    ⟨some 5, .mv (.t 34), none, 0, []⟩])
  (.seq (.reg false [1, 3, 4, 5, 6, 7] [⟨some 36, .load (some 3) (.t 1), none, 0, []⟩,
    ⟨some 37, .call (.f 92) [(.t 36)], none, 0, []⟩,
    ⟨some 38, .call (.f 115) [(.t 37)], none, 0, []⟩,
    ⟨some 35, .mv (.t 38), none, 0, []⟩,
    ⟨some 39, .ext 0 (.t 35), none, 0, []⟩,
    ⟨some 40, .ext 1 (.t 35), none, 0, []⟩,
    ⟨some 6, .mv (.t 39), none, 0, []⟩,
    ⟨some 7, .mv (.t 40), none, 0, []⟩])
  (.seq (.reg false [1, 4, 5, 6, 7, 8, 9] [⟨some 42, .load (some 3) (.t 3), none, 0, []⟩,
    ⟨some 43, .call (.f 115) [(.t 42)], none, 0, []⟩,
    ⟨some 41, .mv (.t 43), none, 0, []⟩,
    ⟨some 44, .ext 0 (.t 41), none, 0, []⟩,
    ⟨some 45, .ext 1 (.t 41), none, 0, []⟩,
    ⟨some 8, .mv (.t 44), none, 0, []⟩,
    ⟨some 9, .mv (.t 45), none, 0, []⟩])
  (.seq (.seq (.reg false [1, 4, 6, 8, 76] [⟨some 46, .mv (.t 5), none, 0, []⟩,
    ⟨some 47, .bin .neq .num (.t 46) (.c (.int .i64 0)), none, 0, []⟩,
    ⟨some 48, .mv (.t 47), none, 0, []⟩,
    ⟨some 49, .mv (.t 7), some (48, false), 0, []⟩,
    ⟨some 50, .bin .neq .num (.t 49) (.c (.int .i64 0)), some (48, false), 0, []⟩,
    ⟨some 51, .pick (.t 48) (.c (.bool true)) (.t 50), none, 0, []⟩,
    ⟨some 52, .mv (.t 51), none, 0, []⟩,
    ⟨some 53, .mv (.t 9), some (52, false), 0, []⟩,
    ⟨some 54, .bin .neq .num (.t 53) (.c (.int .i64 0)), some (52, false), 0, []⟩,
    ⟨some 55, .pick (.t 52) (.c (.bool true)) (.t 54), none, 0, []⟩,
    ⟨some 56, .mv (.t 55), none, 0, []⟩,
    ⟨some 57, .mv (.t 4), some (56, false), 0, []⟩,
    ⟨some 58, .len none (.t 57), some (56, false), 0, []⟩,
    ⟨some 59, .fad 1 (.t 1), some (56, false), 0, []⟩,
    ⟨some 60, .load none (.t 59), some (56, false), 0, []⟩,
    ⟨some 61, .bin .neq .num (.t 58) (.t 60), some (56, false), 0, []⟩,
    ⟨some 62, .pick (.t 56) (.c (.bool true)) (.t 61), none, 0, []⟩,
    ⟨some 63, .mv (.t 62), none, 0, []⟩,
    ⟨some 64, .mv (.t 6), some (63, false), 0, []⟩,
    ⟨some 65, .len none (.t 64), some (63, false), 0, []⟩,
    ⟨some 66, .fad 1 (.t 1), some (63, false), 0, []⟩,
    ⟨some 67, .load none (.t 66), some (63, false), 0, []⟩,
    ⟨some 68, .bin .neq .num (.t 65) (.t 67), some (63, false), 0, []⟩,
    ⟨some 69, .pick (.t 63) (.c (.bool true)) (.t 68), none, 0, []⟩,
    ⟨some 70, .mv (.t 69), none, 0, []⟩,
    ⟨some 71, .mv (.t 8), some (70, false), 0, []⟩,
    ⟨some 72, .len none (.t 71), some (70, false), 0, []⟩,
    ⟨some 73, .fad 1 (.t 1), some (70, false), 0, []⟩,
    ⟨some 74, .load none (.t 73), some (70, false), 0, []⟩,
    ⟨some 75, .bin .neq .num (.t 72) (.t 74), some (70, false), 0, []⟩,
    ⟨some 76, .pick (.t 70) (.c (.bool true)) (.t 75), none, 0, []⟩])
  (.cond (.t 76) (.seq (.reg false [2] [⟨some 2, .mv (.c (.bool false)), none, 0, []⟩])
  (.ret))
  (.skip)))
  (.seq (.seq (.reg false [1, 4, 6, 8, 10] [⟨some 10, .mv (.c (.int .i64 0)), none, 0, []⟩])
  (.block 0 (.loop [1, 4, 6, 8, 10] burinlaw9_RunsMirrored_l0)))
  (.seq (.reg false [2] [⟨some 205, .call (.f 122) [], none, 0, []⟩,
    ⟨some 2, .mv (.t 205), none, 0, []⟩])
  (.ret))))))))))⟩

/-- A program that has them. -/
structure HasL9Mirrored (P : Prog) : Prop where
  h_burinlaw9_RunsMirrored : P 127 = some burinlaw9_RunsMirrored

end Go.Ab
