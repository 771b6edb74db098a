/- The texts of functions of the given program, for the abstract machine: written by wip/tools/gen.py out of Lean's print of the translation. Conditions: none; definitions alone. -/
import Derived.Test.YtnmjcajalnidmaaK1
set_option linter.all false
namespace Go.Ab
-- burinlaw20_DocAlike: 151, parameters ?; loops burinlaw20_DocAlike_l0 [3 ?, 4 ?, 5 ?, 9 ?, 10 ?, 11 ?, 12 ?, 13 ?]; burinlaw20_DocAlike_l1 [3 ?, 4 ?, 5 ?, 9 ?, 10 ?, 11 ?, 12 ?, 13 ?, 14 ?]; burinlaw20_DocAlike_l2 [1 ?, 3 ?, 4 ?, 5 ?, 6 ?]

def burinlaw20_DocAlike_l2 : Cd := .seq (.seq (.reg false [1, 3, 4, 5, 6, 50] [⟨some 49, .mv (.t 6), none, 0, []⟩,
    ⟨some 50, .bin .lss .num (.t 49) (.c (.int .i64 3)), none, 0, []⟩])
  (.cond (.t 50) (.skip)
  (.exit 0)))
  (.seq (.block 1 (.seq (.reg false [1, 3, 4, 5, 6, 7, 8] [⟨some 54, .mv (.t 5), none, 0, []⟩,
    ⟨some 55, .mv (.t 3), none, 0, []⟩,
    ⟨some 56, .mv (.t 4), none, 0, []⟩,
    ⟨some 57, .call (.f 133) [(.t 54), (.t 55), (.t 56)], none, 0, []⟩,
    ⟨some 53, .mv (.t 57), none, 0, []⟩,
    ⟨some 58, .ext 0 (.t 53), none, 0, []⟩,
    ⟨some 59, .ext 1 (.t 53), none, 0, []⟩,
    ⟨some 7, .mv (.t 58), none, 0, []⟩,
    ⟨some 8, .mv (.t 59), none, 0, []⟩])
  (.seq (.reg false [1, 3, 4, 5, 6, 66] [⟨some 60, .mv (.t 7), none, 0, []⟩,
    ⟨some 61, .mv (.t 6), none, 0, []⟩,
    ⟨some 62, .bin .neq .num (.t 60) (.t 61), none, 0, []⟩,
    ⟨some 63, .mv (.t 62), none, 0, []⟩,
    ⟨some 64, .mv (.t 8), some (63, false), 0, []⟩,
    ⟨some 65, .bin .neq .num (.t 64) (.c (.int .i64 0)), some (63, false), 0, []⟩,
    ⟨some 66, .pick (.t 63) (.c (.bool true)) (.t 65), none, 0, []⟩])
  (.cond (.t 66) (.seq (.reg false [2] [⟨some 2, .mv (.c (.bool false)), none, 0, []⟩])
  (.ret))
  (.skip)))))
  (.reg false [1, 3, 4, 5, 6] [⟨some 51, .mv (.t 6), none, 0, []⟩,
    ⟨some 52, .bin .add .num (.t 51) (.c (.int .i64 1)), none, 0, []⟩,
    ⟨some 6, .mv (.t 52), none, 0, []⟩]))
def burinlaw20_DocAlike_l1 : Cd := .seq (.seq (.reg false [3, 4, 5, 9, 10, 11, 12, 13, 14, 109] [⟨some 105, .mv (.t 14), none, 0, []⟩,
    ⟨some 106, .mv (.t 9), none, 0, []⟩,
    ⟨some 107, .mv (.t 11), none, 0, []⟩,
    ⟨some 108, .bin .add .num (.t 106) (.t 107), none, 0, []⟩,
    ⟨some 109, .bin .lss .num (.t 105) (.t 108), none, 0, []⟩])
  (.cond (.t 109) (.skip)
  (.exit 4)))
  (.seq (.block 5 (.seq (.reg false [3, 4, 5, 9, 10, 11, 12, 13, 14, 15] [⟨some 112, .mv (.t 5), none, 0, []⟩,
    ⟨some 113, .mv (.t 14), none, 0, []⟩,
    ⟨some 114, .mv (.t 13), none, 0, []⟩,
    ⟨some 115, .call (.f 140) [(.t 112), (.c (.int .i64 1)), (.t 113), (.t 114), (.c (.int .i64 1))], none, 0, []⟩,
    ⟨some 15, .mv (.t 115), none, 0, []⟩])
  (.seq (.reg false [3, 4, 5, 9, 10, 11, 12, 13, 14, 15, 16] [⟨some 116, .mv (.t 14), none, 0, []⟩,
    ⟨some 117, .bin .geq .num (.t 116) (.c (.int .i64 0)), none, 0, []⟩,
    ⟨some 118, .mv (.t 117), none, 0, []⟩,
    ⟨some 119, .mv (.t 14), some (118, true), 0, []⟩,
    ⟨some 120, .mv (.t 3), some (118, true), 0, []⟩,
    ⟨some 121, .bin .lss .num (.t 119) (.t 120), some (118, true), 0, []⟩,
    ⟨some 122, .pick (.t 118) (.t 121) (.c (.bool false)), none, 0, []⟩,
    ⟨some 123, .mv (.t 122), none, 0, []⟩,
    ⟨some 124, .mv (.t 13), some (123, true), 0, []⟩,
    ⟨some 125, .bin .geq .num (.t 124) (.c (.int .i64 0)), some (123, true), 0, []⟩,
    ⟨some 126, .pick (.t 123) (.t 125) (.c (.bool false)), none, 0, []⟩,
    ⟨some 127, .mv (.t 126), none, 0, []⟩,
    ⟨some 128, .mv (.t 13), some (127, true), 0, []⟩,
    ⟨some 129, .mv (.t 4), some (127, true), 0, []⟩,
    ⟨some 130, .bin .lss .num (.t 128) (.t 129), some (127, true), 0, []⟩,
    ⟨some 131, .pick (.t 127) (.t 130) (.c (.bool false)), none, 0, []⟩,
    ⟨some 16, .mv (.t 131), none, 0, []⟩])
  (.seq (.reg false [3, 4, 5, 9, 10, 11, 12, 13, 14, 143] [⟨some 132, .mv (.t 16), none, 0, []⟩,
    ⟨some 133, .mv (.t 15), none, 0, []⟩,
    ⟨some 134, .bin .eql .num (.t 133) (.c (.int .i64 0)), none, 0, []⟩,
    ⟨some 135, .bin .neq .bool (.t 132) (.t 134), none, 0, []⟩,
    ⟨some 136, .mv (.t 135), none, 0, []⟩,
    ⟨some 137, .mv (.t 16), some (136, false), 0, []⟩,
    ⟨some 138, .un .not (.t 137), some (136, false), 0, []⟩,
    ⟨some 139, .mv (.t 138), some (136, false), 0, []⟩,
    ⟨some 140, .mv (.t 15), some (139, true), 0, []⟩,
    ⟨some 141, .bin .neq .num (.t 140) (.c (.int .i64 182)), some (139, true), 0, []⟩,
    ⟨some 142, .pick (.t 139) (.t 141) (.c (.bool false)), some (136, false), 0, []⟩,
    ⟨some 143, .pick (.t 136) (.c (.bool true)) (.t 142), none, 0, []⟩])
  (.cond (.t 143) (.seq (.reg false [2] [⟨some 2, .mv (.c (.bool false)), none, 0, []⟩])
  (.ret))
  (.skip))))))
  (.reg false [3, 4, 5, 9, 10, 11, 12, 13, 14] [⟨some 110, .mv (.t 14), none, 0, []⟩,
    ⟨some 111, .bin .add .num (.t 110) (.c (.int .i64 1)), none, 0, []⟩,
    ⟨some 14, .mv (.t 111), none, 0, []⟩]))
def burinlaw20_DocAlike_l0 : Cd := .seq (.seq (.reg false [3, 4, 5, 9, 10, 11, 12, 13, 101] [⟨some 97, .mv (.t 13), none, 0, []⟩,
    ⟨some 98, .mv (.t 10), none, 0, []⟩,
    ⟨some 99, .mv (.t 12), none, 0, []⟩,
    ⟨some 100, .bin .add .num (.t 98) (.t 99), none, 0, []⟩,
    ⟨some 101, .bin .lss .num (.t 97) (.t 100), none, 0, []⟩])
  (.cond (.t 101) (.skip)
  (.exit 2)))
  (.seq (.block 3 (.seq (.reg false [3, 4, 5, 9, 10, 11, 12, 13, 14] [⟨some 104, .mv (.t 9), none, 0, []⟩,
    ⟨some 14, .mv (.t 104), none, 0, []⟩])
  (.block 4 (.loop [3, 4, 5, 9, 10, 11, 12, 13, 14] burinlaw20_DocAlike_l1))))
  (.reg false [3, 4, 5, 9, 10, 11, 12, 13] [⟨some 102, .mv (.t 13), none, 0, []⟩,
    ⟨some 103, .bin .add .num (.t 102) (.c (.int .i64 1)), none, 0, []⟩,
    ⟨some 13, .mv (.t 103), none, 0, []⟩]))
/-- burin/burinlaw20.DocAlike -/
def burinlaw20_DocAlike : AFun := ⟨1, 196, true, [.t 2],
  .seq (.reg false [1] [⟨some 1, .box 2 (.t 0), none, 0, []⟩,
    ⟨some 2, .mv (.c (.bool false)), none, 0, []⟩])
  (.seq (.seq (.reg false [1, 32] [⟨some 23, .fad 0 (.t 1), none, 0, []⟩,
    ⟨some 24, .load none (.t 23), none, 0, []⟩,
    ⟨some 25, .len none (.t 24), none, 0, []⟩,
    ⟨some 26, .bin .lss .num (.t 25) (.c (.int .i64 3)), none, 0, []⟩,
    ⟨some 27, .mv (.t 26), none, 0, []⟩,
    ⟨some 28, .fad 1 (.t 1), some (27, false), 0, []⟩,
    ⟨some 29, .load none (.t 28), some (27, false), 0, []⟩,
    ⟨some 30, .len none (.t 29), some (27, false), 0, []⟩,
    ⟨some 31, .bin .lss .num (.t 30) (.c (.int .i64 3)), some (27, false), 0, []⟩,
    ⟨some 32, .pick (.t 27) (.c (.bool true)) (.t 31), none, 0, []⟩])
  (.cond (.t 32) (.seq (.reg false [2] [⟨some 33, .call (.f 146) [], none, 0, []⟩,
    ⟨some 2, .mv (.t 33), none, 0, []⟩])
  (.ret))
  (.skip)))
  (.seq (.reg false [1, 3] [⟨some 34, .fad 0 (.t 1), none, 0, []⟩,
    ⟨some 35, .load none (.t 34), none, 0, []⟩,
    ⟨some 36, .iad none 1 (.t 35) (.c (.int .i64 0)), none, 0, []⟩,
    ⟨some 37, .load none (.t 36), none, 0, []⟩,
    ⟨some 38, .call (.f 29) [(.t 37), (.c (.int .i64 80))], none, 0, []⟩,
    ⟨some 39, .bin .add .num (.c (.int .i64 1)) (.t 38), none, 0, []⟩,
    ⟨some 3, .mv (.t 39), none, 0, []⟩])
  (.seq (.reg false [1, 3, 4] [⟨some 40, .fad 1 (.t 1), none, 0, []⟩,
    ⟨some 41, .load none (.t 40), none, 0, []⟩,
    ⟨some 42, .iad none 1 (.t 41) (.c (.int .i64 0)), none, 0, []⟩,
    ⟨some 43, .load none (.t 42), none, 0, []⟩,
    ⟨some 44, .call (.f 29) [(.t 43), (.c (.int .i64 20))], none, 0, []⟩,
    ⟨some 45, .bin .add .num (.c (.int .i64 1)) (.t 44), none, 0, []⟩,
    ⟨some 4, .mv (.t 45), none, 0, []⟩])
  (.seq (.reg false [1, 3, 4, 5] [⟨some 46, .call (.f 128) [], none, 0, []⟩,
    ⟨some 5, .mv (.t 46), none, 0, []⟩])
  (.seq (.seq (.reg false [1, 3, 4, 5, 48] [⟨some 47, .mv (.t 5), none, 0, []⟩,
    ⟨some 48, .bin .eql .ptr (.t 47) (.c (.ptr none)), none, 0, []⟩])
  (.cond (.t 48) (.seq (.reg false [2] [⟨some 2, .mv (.c (.bool false)), none, 0, []⟩])
  (.ret))
  (.skip)))
  (.seq (.seq (.reg false [1, 3, 4, 5, 6] [⟨some 6, .mv (.c (.int .i64 0)), none, 0, []⟩])
  (.block 0 (.loop [1, 3, 4, 5, 6] burinlaw20_DocAlike_l2)))
  (.seq (.reg false [1, 3, 4, 5, 9] [⟨some 67, .fad 0 (.t 1), none, 0, []⟩,
    ⟨some 68, .load none (.t 67), none, 0, []⟩,
    ⟨some 69, .iad none 1 (.t 68) (.c (.int .i64 1)), none, 0, []⟩,
    ⟨some 70, .load none (.t 69), none, 0, []⟩,
    ⟨some 71, .call (.f 29) [(.t 70), (.c (.int .i64 90))], none, 0, []⟩,
    ⟨some 72, .bin .sub .num (.t 71) (.c (.int .i64 5)), none, 0, []⟩,
    ⟨some 9, .mv (.t 72), none, 0, []⟩])
  (.seq (.reg false [1, 3, 4, 5, 9, 10] [⟨some 73, .fad 1 (.t 1), none, 0, []⟩,
    ⟨some 74, .load none (.t 73), none, 0, []⟩,
    ⟨some 75, .iad none 1 (.t 74) (.c (.int .i64 1)), none, 0, []⟩,
    ⟨some 76, .load none (.t 75), none, 0, []⟩,
    ⟨some 77, .call (.f 29) [(.t 76), (.c (.int .i64 30))], none, 0, []⟩,
    ⟨some 78, .bin .sub .num (.t 77) (.c (.int .i64 5)), none, 0, []⟩,
    ⟨some 10, .mv (.t 78), none, 0, []⟩])
  (.seq (.reg false [1, 3, 4, 5, 9, 10, 11] [⟨some 79, .fad 0 (.t 1), none, 0, []⟩,
    ⟨some 80, .load none (.t 79), none, 0, []⟩,
    ⟨some 81, .iad none 1 (.t 80) (.c (.int .i64 2)), none, 0, []⟩,
    ⟨some 82, .load none (.t 81), none, 0, []⟩,
    ⟨some 83, .call (.f 29) [(.t 82), (.c (.int .i64 90))], none, 0, []⟩,
    ⟨some 11, .mv (.t 83), none, 0, []⟩])
  (.seq (.reg false [3, 4, 5, 9, 10, 11, 12] [⟨some 84, .fad 1 (.t 1), none, 0, []⟩,
    ⟨some 85, .load none (.t 84), none, 0, []⟩,
    ⟨some 86, .iad none 1 (.t 85) (.c (.int .i64 2)), none, 0, []⟩,
    ⟨some 87, .load none (.t 86), none, 0, []⟩,
    ⟨some 88, .call (.f 29) [(.t 87), (.c (.int .i64 30))], none, 0, []⟩,
    ⟨some 12, .mv (.t 88), none, 0, []⟩])
  (.seq (.seq (.reg false [3, 4, 5, 9, 10, 11, 12, 95] [⟨some 89, .mv (.t 5), none, 0, []⟩,
    ⟨some 90, .mv (.t 9), none, 0, []⟩,
    ⟨some 91, .mv (.t 10), none, 0, []⟩,
    ⟨some 92, .mv (.t 11), none, 0, []⟩,
    ⟨some 93, .mv (.t 12), none, 0, []⟩,
    ⟨some 94, .call (.f 142) [(.t 89), (.c (.int .i64 0)), (.t 90), (.t 91), (.t 92), (.t 93), (.c (.int .i64 1))], none, 0, []⟩,
    ⟨some 95, .bin .neq .num (.t 94) (.c (.int .i64 0)), none, 0, []⟩])
  (.cond (.t 95) (.seq (.reg false [2] [⟨some 2, .mv (.c (.bool false)), none, 0, []⟩])
  (.ret))
  (.skip)))
  (.seq (.seq (.reg false [3, 4, 5, 9, 10, 11, 12, 13] [⟨some 96, .mv (.t 10), none, 0, []⟩,
    ⟨some 13, .mv (.t 96), none, 0, []⟩])
  (.block 2 (.loop [3, 4, 5, 9, 10, 11, 12, 13] burinlaw20_DocAlike_l0)))
  (.seq (.seq (.reg false [5, 148] [⟨some 144, .mv (.t 5), none, 0, []⟩,
    ⟨some 145, .mv (.t 3), none, 0, []⟩,
    ⟨some 146, .mv (.t 4), none, 0, []⟩,
    ⟨some 147, .call (.f 144) [(.t 144), (.c (.int .i64 0)), (.c (.int .i64 0)), (.c (.int .i64 0)), (.t 145), (.t 146), (.c (.int .i64 2)), (.c (.int .i64 0)), (.c (.int .i64 0)), (.c (.int .i64 4))], none, 0, []⟩,
    ⟨some 148, .bin .neq .num (.t 147) (.c (.int .i64 0)), none, 0, []⟩])
  (.cond (.t 148) (.seq (.reg false [2] [⟨some 2, .mv (.c (.bool false)), none, 0, []⟩])
  (.ret))
  (.skip)))
  (.seq (.reg false [5, 17, 18] [⟨some 150, .mv (.t 5), none, 0, []⟩,
    ⟨some 151, .call (.f 135) [(.t 150), (.c (.int .i64 0))], none, 0, []⟩,
    ⟨some 149, .mv (.t 151), none, 0, []⟩,
    ⟨some 152, .ext 0 (.t 149), none, 0, []⟩,
    ⟨some 153, .ext 1 (.t 149), none, 0, []⟩,
    ⟨some 17, .alloc [.int .i64 0, .int .i64 0, .sl none 0 0 0], none, 0, []⟩,
    ⟨none, .store 3 (.t 17) (.t 152), none, 0, []⟩,
    ⟨some 18, .mv (.t 153), none, 0, []⟩])
  (.seq (.reg false [5, 17, 18, 19, 20] [⟨some 155, .mv (.t 5), none, 0, []⟩,
    ⟨some 156, .call (.f 135) [(.t 155), (.c (.int .i64 1))], none, 0, []⟩,
    ⟨some 154, .mv (.t 156), none, 0, []⟩,
    ⟨some 157, .ext 0 (.t 154), none, 0, []⟩,
    ⟨some 158, .ext 1 (.t 154), none, 0, []⟩,
    ⟨some 19, .alloc [.int .i64 0, .int .i64 0, .sl none 0 0 0], none, 0, []⟩,
    ⟨none, .store 3 (.t 19) (.t 157), none, 0, []⟩,
    ⟨some 20, .mv (.t 158), none, 0, []⟩])
  (.seq (.reg false [5, 17, 18, 19, 20, 21, 22] [⟨some 160, .mv (.t 5), none, 0, []⟩,
    ⟨some 161, .call (.f 135) [(.t 160), (.c (.int .i64 2))], none, 0, []⟩,
    ⟨some 159, .mv (.t 161), none, 0, []⟩,
    ⟨some 162, .ext 0 (.t 159), none, 0, []⟩,
    ⟨some 163, .ext 1 (.t 159), none, 0, []⟩,
    ⟨some 21, .alloc [.int .i64 0, .int .i64 0, .sl none 0 0 0], none, 0, []⟩,
    ⟨none, .store 3 (.t 21) (.t 162), none, 0, []⟩,
    ⟨some 22, .mv (.t 163), none, 0, []⟩])
  (.seq (.reg false [2] [⟨some 164, .mv (.t 18), none, 0, []⟩,
    ⟨some 165, .bin .eql .num (.t 164) (.c (.int .i64 0)), none, 0, []⟩,
    ⟨some 166, .mv (.t 165), none, 0, []⟩,
    ⟨some 167, .mv (.t 20), some (166, true), 0, []⟩,
    ⟨some 168, .bin .eql .num (.t 167) (.c (.int .i64 0)), some (166, true), 0, []⟩,
    ⟨some 169, .pick (.t 166) (.t 168) (.c (.bool false)), none, 0, []⟩,
    ⟨some 170, .mv (.t 169), none, 0, []⟩,
    ⟨some 171, .mv (.t 22), some (170, true), 0, []⟩,
    ⟨some 172, .bin .eql .num (.t 171) (.c (.int .i64 0)), some (170, true), 0, []⟩,
    ⟨some 173, .pick (.t 170) (.t 172) (.c (.bool false)), none, 0, []⟩,
    ⟨some 174, .mv (.t 173), none, 0, []⟩,
    ⟨some 175, .load (some 3) (.t 17), some (174, true), 0, []⟩,
    ⟨some 176, .load (some 3) (.t 19), some (174, true), 0, []⟩,
    ⟨some 177, .call (.f 84) [(.t 175), (.t 176)], some (174, true), 0, []⟩,
    ⟨some 178, .pick (.t 174) (.t 177) (.c (.bool false)), none, 0, []⟩,
    ⟨some 179, .mv (.t 178), none, 0, []⟩,
    ⟨some 180, .load (some 3) (.t 17), some (179, true), 0, []⟩,
    ⟨some 181, .load (some 3) (.t 21), some (179, true), 0, []⟩,
    ⟨some 182, .call (.f 84) [(.t 180), (.t 181)], some (179, true), 0, []⟩,
    ⟨some 183, .pick (.t 179) (.t 182) (.c (.bool false)), none, 0, []⟩,
    ⟨some 184, .mv (.t 183), none, 0, []⟩,
    ⟨some 185, .mv (.t 5), some (184, true), 0, []⟩,
    ⟨some 186, .call (.f 145) [(.t 185)], some (184, true), 0, []⟩,
    ⟨some 187, .pick (.t 184) (.t 186) (.c (.bool false)), none, 0, []⟩,
    ⟨some 188, .mv (.t 187), none, 0, []⟩,
    ⟨some 189, .mv (.t 5), some (188, true), 0, []⟩,
    ⟨some 190, .call (.f 134) [(.t 189)], some (188, true), 0, []⟩,
    ⟨some 191, .bin .eql .num (.t 190) (.c (.int .i64 3)), some (188, true), 0, []⟩,
    ⟨some 192, .pick (.t 188) (.t 191) (.c (.bool false)), none, 0, []⟩,
    ⟨some 193, .mv (.t 192), none, 0, []⟩,
    ⟨some 194, .call (.f 146) [], some (193, true), 0, []⟩,
    ⟨some 195, .pick (.t 193) (.t 194) (.c (.bool false)), none, 0, []⟩,
    ⟨some 2, .mv (.t 195), none, 0, []⟩])
  (.ret))))))))))))))))))⟩

/-- A program that has them. -/
structure HasL20Alike (P : Prog) : Prop where
  h_burinlaw20_DocAlike : P 151 = some burinlaw20_DocAlike

end Go.Ab
