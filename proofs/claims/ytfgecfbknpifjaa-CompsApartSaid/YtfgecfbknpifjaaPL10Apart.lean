/- The texts of functions of the given program, for the abstract machine: written by wip/tools/gen.py out of Lean's print of the translation. Conditions: none; definitions alone. -/
import Derived.Test.YtfgecfbknpifjaaK1
set_option linter.all false
namespace Go.Ab
-- burinlaw10_CompsApart: 196, parameters ?; loops burinlaw10_CompsApart_l0 [1 ?, 5 ?, 13 ?]; burinlaw10_CompsApart_l1 [1 ?, 5 ?, 13 ?, 14 ?]; burinlaw10_CompsApart_l2 [1 ?, 3 ?, 5 ?, 6 ?, 7 ?]; burinlaw10_CompsApart_l3 [1 ?, 3 ?, 5 ?, 6 ?, 7 ?, 8 ?, 9 ?, 10 ?]; burinlaw10_CompsApart_l4 [1 ?, 3 ?, 5 ?, 6 ?, 7 ?, 8 ?, 9 ?, 10 ?, 11 ?]
-- burinlaw10_alike: 195, parameters own w x y k; loops burinlaw10_alike_l0 [0 own, 1 w, 2 x, 3 y, 4 k, 11 i]

def burinlaw10_CompsApart_l4 : Cd := .seq (.seq (.reg false [1, 3, 5, 6, 7, 8, 9, 10, 11, 104] [⟨some 100, .mv (.t 11), none, 0, []⟩,
    ⟨some 101, .fad 2 (.t 8), none, 0, []⟩,
    ⟨some 102, .fad 0 (.t 101), none, 0, []⟩,
    ⟨some 103, .load none (.t 102), none, 0, []⟩,
    ⟨some 104, .bin .lss .num (.t 100) (.t 103), none, 0, []⟩])
  (.cond (.t 104) (.skip)
  (.exit 4)))
  (.seq (.block 5 (.seq (.seq (.reg false [1, 3, 5, 6, 7, 8, 9, 10, 11, 112] [⟨some 107, .fad 2 (.t 8), none, 0, []⟩,
    ⟨some 108, .load (some 3) (.t 107), none, 0, []⟩,
    ⟨some 109, .mv (.t 11), none, 0, []⟩,
    ⟨some 110, .mv (.t 10), none, 0, []⟩,
    ⟨some 111, .call (.f 78) [(.t 108), (.t 109), (.t 110)], none, 0, []⟩,
    ⟨some 112, .bin .eql .num (.t 111) (.c (.int .i64 0)), none, 0, []⟩])
  (.cond (.t 112) (.exit 5)
  (.skip)))
  (.seq (.reg false [1, 3, 5, 6, 7, 8, 9, 10, 11, 12] [⟨some 113, .fad 1 (.t 8), none, 0, []⟩,
    ⟨some 114, .load none (.t 113), none, 0, []⟩,
    ⟨some 115, .mv (.t 10), none, 0, []⟩,
    ⟨some 116, .bin .add .num (.t 114) (.t 115), none, 0, []⟩,
    ⟨some 117, .fad 0 (.t 1), none, 0, []⟩,
    ⟨some 118, .load none (.t 117), none, 0, []⟩,
    ⟨some 119, .bin .mul .num (.t 116) (.t 118), none, 0, []⟩,
    ⟨some 120, .fad 0 (.t 8), none, 0, []⟩,
    ⟨some 121, .load none (.t 120), none, 0, []⟩,
    ⟨some 122, .bin .add .num (.t 119) (.t 121), none, 0, []⟩,
    ⟨some 123, .mv (.t 11), none, 0, []⟩,
    ⟨some 124, .bin .add .num (.t 122) (.t 123), none, 0, []⟩,
    ⟨some 12, .mv (.t 124), none, 0, []⟩])
  (.seq (.seq (.reg false [1, 3, 5, 6, 7, 8, 9, 10, 11, 12, 126] [⟨some 125, .mv (.t 9), none, 0, []⟩,
    ⟨some 126, .bin .lss .num (.t 125) (.c (.int .i64 0)), none, 0, []⟩])
  (.cond (.t 126) (.reg false [1, 3, 5, 6, 7, 8, 9, 10, 11, 12] [⟨some 127, .mv (.t 12), none, 0, []⟩,
    ⟨some 9, .mv (.t 127), none, 0, []⟩])
  (.skip)))
  (.seq (.seq (.reg false [1, 3, 5, 6, 7, 8, 9, 10, 11, 12, 132] [⟨some 128, .mv (.t 5), none, 0, []⟩,
    ⟨some 129, .mv (.t 12), none, 0, []⟩,
    ⟨some 130, .iad none 1 (.t 128) (.t 129), none, 0, []⟩,
    ⟨some 131, .load none (.t 130), none, 0, []⟩,
    ⟨some 132, .bin .neq .num (.t 131) (.c (.int .i64 0)), none, 0, []⟩])
  (.cond (.t 132) (.seq (.reg false [2] [⟨some 2, .mv (.c (.bool false)), none, 0, []⟩])
  (.ret))
  (.skip)))
  (.reg false [1, 3, 5, 6, 7, 8, 9, 10, 11] [⟨some 133, .mv (.t 5), none, 0, []⟩,
    ⟨some 134, .mv (.t 12), none, 0, []⟩,
    ⟨some 135, .mv (.t 7), none, 0, []⟩,
    ⟨some 136, .bin .add .num (.t 135) (.c (.int .i64 1)), none, 0, []⟩,
    ⟨some 137, .iad none 1 (.t 133) (.t 134), none, 0, []⟩,
    ⟨none, .store 1 (.t 137) (.t 136), none, 0, []⟩]))))))
  (.reg false [1, 3, 5, 6, 7, 8, 9, 10, 11] [⟨some 105, .mv (.t 11), none, 0, []⟩,
    ⟨some 106, .bin .add .num (.t 105) (.c (.int .i64 1)), none, 0, []⟩,
    ⟨some 11, .mv (.t 106), none, 0, []⟩]))
def burinlaw10_CompsApart_l3 : Cd := .seq (.seq (.reg false [1, 3, 5, 6, 7, 8, 9, 10, 97] [⟨some 93, .mv (.t 10), none, 0, []⟩,
    ⟨some 94, .fad 2 (.t 8), none, 0, []⟩,
    ⟨some 95, .fad 1 (.t 94), none, 0, []⟩,
    ⟨some 96, .load none (.t 95), none, 0, []⟩,
    ⟨some 97, .bin .lss .num (.t 93) (.t 96), none, 0, []⟩])
  (.cond (.t 97) (.skip)
  (.exit 2)))
  (.seq (.block 3 (.seq (.reg false [1, 3, 5, 6, 7, 8, 9, 10, 11] [⟨some 11, .mv (.c (.int .i64 0)), none, 0, []⟩])
  (.block 4 (.loop [1, 3, 5, 6, 7, 8, 9, 10, 11] burinlaw10_CompsApart_l4))))
  (.reg false [1, 3, 5, 6, 7, 8, 9, 10] [⟨some 98, .mv (.t 10), none, 0, []⟩,
    ⟨some 99, .bin .add .num (.t 98) (.c (.int .i64 1)), none, 0, []⟩,
    ⟨some 10, .mv (.t 99), none, 0, []⟩]))
def burinlaw10_CompsApart_l2 : Cd := .seq (.seq (.reg false [1, 3, 5, 6, 7, 50] [⟨some 47, .mv (.t 7), none, 0, []⟩,
    ⟨some 48, .mv (.t 3), none, 0, []⟩,
    ⟨some 49, .len none (.t 48), none, 0, []⟩,
    ⟨some 50, .bin .lss .num (.t 47) (.t 49), none, 0, []⟩])
  (.cond (.t 50) (.skip)
  (.exit 0)))
  (.seq (.block 1 (.seq (.reg false [1, 3, 5, 6, 7, 8] [⟨some 53, .mv (.t 3), none, 0, []⟩,
    ⟨some 54, .mv (.t 7), none, 0, []⟩,
    ⟨some 55, .iad none 5 (.t 53) (.t 54), none, 0, []⟩,
    ⟨some 56, .load (some 5) (.t 55), none, 0, []⟩,
    ⟨some 8, .alloc [.int .i64 0, .int .i64 0, .int .i64 0, .int .i64 0, .sl none 0 0 0], none, 0, []⟩,
    ⟨none, .store 5 (.t 8) (.t 56), none, 0, []⟩])
  (.seq (.seq (.reg false [1, 3, 5, 6, 7, 8, 92] [⟨some 57, .fad 2 (.t 8), none, 0, []⟩,
    ⟨some 58, .load (some 3) (.t 57), none, 0, []⟩,
    ⟨some 59, .call (.f 76) [(.t 58)], none, 0, []⟩,
    ⟨some 60, .un .not (.t 59), none, 0, []⟩,
    ⟨some 61, .mv (.t 60), none, 0, []⟩,
    ⟨some 62, .fad 0 (.t 8), some (61, false), 0, []⟩,
    ⟨some 63, .load none (.t 62), some (61, false), 0, []⟩,
    ⟨some 64, .bin .lss .num (.t 63) (.c (.int .i64 0)), some (61, false), 0, []⟩,
    ⟨some 65, .pick (.t 61) (.c (.bool true)) (.t 64), none, 0, []⟩,
    ⟨some 66, .mv (.t 65), none, 0, []⟩,
    ⟨some 67, .fad 1 (.t 8), some (66, false), 0, []⟩,
    ⟨some 68, .load none (.t 67), some (66, false), 0, []⟩,
    ⟨some 69, .bin .lss .num (.t 68) (.c (.int .i64 0)), some (66, false), 0, []⟩,
    ⟨some 70, .pick (.t 66) (.c (.bool true)) (.t 69), none, 0, []⟩,
    ⟨some 71, .mv (.t 70), none, 0, []⟩,
    ⟨some 72, .fad 0 (.t 8), some (71, false), 0, []⟩,
    ⟨some 73, .load none (.t 72), some (71, false), 0, []⟩,
    ⟨some 74, .fad 2 (.t 8), some (71, false), 0, []⟩,
    ⟨some 75, .fad 0 (.t 74), some (71, false), 0, []⟩,
    ⟨some 76, .load none (.t 75), some (71, false), 0, []⟩,
    ⟨some 77, .bin .add .num (.t 73) (.t 76), some (71, false), 0, []⟩,
    ⟨some 78, .fad 0 (.t 1), some (71, false), 0, []⟩,
    ⟨some 79, .load none (.t 78), some (71, false), 0, []⟩,
    ⟨some 80, .bin .gtr .num (.t 77) (.t 79), some (71, false), 0, []⟩,
    ⟨some 81, .pick (.t 71) (.c (.bool true)) (.t 80), none, 0, []⟩,
    ⟨some 82, .mv (.t 81), none, 0, []⟩,
    ⟨some 83, .fad 1 (.t 8), some (82, false), 0, []⟩,
    ⟨some 84, .load none (.t 83), some (82, false), 0, []⟩,
    ⟨some 85, .fad 2 (.t 8), some (82, false), 0, []⟩,
    ⟨some 86, .fad 1 (.t 85), some (82, false), 0, []⟩,
    ⟨some 87, .load none (.t 86), some (82, false), 0, []⟩,
    ⟨some 88, .bin .add .num (.t 84) (.t 87), some (82, false), 0, []⟩,
    ⟨some 89, .fad 1 (.t 1), some (82, false), 0, []⟩,
    ⟨some 90, .load none (.t 89), some (82, false), 0, []⟩,
    ⟨some 91, .bin .gtr .num (.t 88) (.t 90), some (82, false), 0, []⟩,
    ⟨some 92, .pick (.t 82) (.c (.bool true)) (.t 91), none, 0, []⟩])
  (.cond (.t 92) (.seq (.reg false [2] [⟨some 2, .mv (.c (.bool false)), none, 0, []⟩])
  (.ret))
  (.skip)))
  (.seq (.reg false [1, 3, 5, 6, 7, 8, 9] [⟨some 9, .mv (.c (.int .i64 (-1))), none, 0, []⟩])
  (.seq (.seq (.reg false [1, 3, 5, 6, 7, 8, 9, 10] [⟨some 10, .mv (.c (.int .i64 0)), none, 0, []⟩])
  (.block 2 (.loop [1, 3, 5, 6, 7, 8, 9, 10] burinlaw10_CompsApart_l3)))
  (.seq (.seq (.reg false [1, 3, 5, 7, 9, 140] [⟨some 138, .mv (.t 9), none, 0, []⟩,
    ⟨some 139, .mv (.t 6), none, 0, []⟩,
    ⟨some 140, .bin .leq .num (.t 138) (.t 139), none, 0, []⟩])
  (.cond (.t 140) (.seq (.reg false [2] [⟨some 2, .mv (.c (.bool false)), none, 0, []⟩])
  (.ret))
  (.skip)))
  (.reg false [1, 3, 5, 6, 7] [⟨some 141, .mv (.t 9), none, 0, []⟩,
    ⟨some 6, .mv (.t 141), none, 0, []⟩])))))))
  (.reg false [1, 3, 5, 6, 7] [⟨some 51, .mv (.t 7), none, 0, []⟩,
    ⟨some 52, .bin .add .num (.t 51) (.c (.int .i64 1)), none, 0, []⟩,
    ⟨some 7, .mv (.t 52), none, 0, []⟩]))
def burinlaw10_CompsApart_l1 : Cd := .seq (.seq (.reg false [1, 5, 13, 14, 151] [⟨some 148, .mv (.t 14), none, 0, []⟩,
    ⟨some 149, .fad 0 (.t 1), none, 0, []⟩,
    ⟨some 150, .load none (.t 149), none, 0, []⟩,
    ⟨some 151, .bin .lss .num (.t 148) (.t 150), none, 0, []⟩])
  (.cond (.t 151) (.skip)
  (.exit 8)))
  (.seq (.block 9 (.seq (.reg false [1, 5, 13, 14, 15] [⟨some 154, .mv (.t 5), none, 0, []⟩,
    ⟨some 155, .mv (.t 13), none, 0, []⟩,
    ⟨some 156, .fad 0 (.t 1), none, 0, []⟩,
    ⟨some 157, .load none (.t 156), none, 0, []⟩,
    ⟨some 158, .bin .mul .num (.t 155) (.t 157), none, 0, []⟩,
    ⟨some 159, .mv (.t 14), none, 0, []⟩,
    ⟨some 160, .bin .add .num (.t 158) (.t 159), none, 0, []⟩,
    ⟨some 161, .iad none 1 (.t 154) (.t 160), none, 0, []⟩,
    ⟨some 162, .load none (.t 161), none, 0, []⟩,
    ⟨some 15, .mv (.t 162), none, 0, []⟩])
  (.seq (.seq (.reg false [1, 5, 13, 14, 15, 170] [⟨some 163, .mv (.t 15), none, 0, []⟩,
    ⟨some 164, .bin .gtr .num (.t 163) (.c (.int .i64 0)), none, 0, []⟩,
    ⟨some 165, .load (some 3) (.t 1), none, 0, []⟩,
    ⟨some 166, .mv (.t 14), none, 0, []⟩,
    ⟨some 167, .mv (.t 13), none, 0, []⟩,
    ⟨some 168, .call (.f 78) [(.t 165), (.t 166), (.t 167)], none, 0, []⟩,
    ⟨some 169, .bin .eql .num (.t 168) (.c (.int .i64 1)), none, 0, []⟩,
    ⟨some 170, .bin .neq .bool (.t 164) (.t 169), none, 0, []⟩])
  (.cond (.t 170) (.seq (.reg false [2] [⟨some 2, .mv (.c (.bool false)), none, 0, []⟩])
  (.ret))
  (.skip)))
  (.seq (.reg false [1, 5, 13, 14, 222] [⟨some 171, .mv (.t 15), none, 0, []⟩,
    ⟨some 172, .bin .gtr .num (.t 171) (.c (.int .i64 0)), none, 0, []⟩,
    ⟨some 173, .mv (.t 172), none, 0, []⟩,
    ⟨some 174, .mv (.t 14), some (173, true), 0, []⟩,
    ⟨some 175, .bin .gtr .num (.t 174) (.c (.int .i64 0)), some (173, true), 0, []⟩,
    ⟨some 176, .pick (.t 173) (.t 175) (.c (.bool false)), none, 0, []⟩,
    ⟨some 177, .mv (.t 176), none, 0, []⟩,
    ⟨some 178, .mv (.t 5), some (177, true), 0, []⟩,
    ⟨some 179, .mv (.t 13), some (177, true), 0, []⟩,
    ⟨some 180, .fad 0 (.t 1), some (177, true), 0, []⟩,
    ⟨some 181, .load none (.t 180), some (177, true), 0, []⟩,
    ⟨some 182, .bin .mul .num (.t 179) (.t 181), some (177, true), 0, []⟩,
    ⟨some 183, .mv (.t 14), some (177, true), 0, []⟩,
    ⟨some 184, .bin .add .num (.t 182) (.t 183), some (177, true), 0, []⟩,
    ⟨some 185, .bin .sub .num (.t 184) (.c (.int .i64 1)), some (177, true), 0, []⟩,
    ⟨some 186, .iad none 1 (.t 178) (.t 185), some (177, true), 0, []⟩,
    ⟨some 187, .load none (.t 186), some (177, true), 0, []⟩,
    ⟨some 188, .bin .gtr .num (.t 187) (.c (.int .i64 0)), some (177, true), 0, []⟩,
    ⟨some 189, .pick (.t 177) (.t 188) (.c (.bool false)), none, 0, []⟩,
    ⟨some 190, .mv (.t 189), none, 0, []⟩,
    ⟨some 191, .mv (.t 5), some (190, true), 0, []⟩,
    ⟨some 192, .mv (.t 13), some (190, true), 0, []⟩,
    ⟨some 193, .fad 0 (.t 1), some (190, true), 0, []⟩,
    ⟨some 194, .load none (.t 193), some (190, true), 0, []⟩,
    ⟨some 195, .bin .mul .num (.t 192) (.t 194), some (190, true), 0, []⟩,
    ⟨some 196, .mv (.t 14), some (190, true), 0, []⟩,
    ⟨some 197, .bin .add .num (.t 195) (.t 196), some (190, true), 0, []⟩,
    ⟨some 198, .bin .sub .num (.t 197) (.c (.int .i64 1)), some (190, true), 0, []⟩,
    ⟨some 199, .iad none 1 (.t 191) (.t 198), some (190, true), 0, []⟩,
    ⟨some 200, .load none (.t 199), some (190, true), 0, []⟩,
    ⟨some 201, .mv (.t 15), some (190, true), 0, []⟩,
    ⟨some 202, .bin .neq .num (.t 200) (.t 201), some (190, true), 0, []⟩,
    ⟨some 203, .pick (.t 190) (.t 202) (.c (.bool false)), none, 0, []⟩,
    ⟨some 204, .mv (.t 203), none, 0, []⟩,
    ⟨some 205, .mv (.t 15), some (204, false), 0, []⟩,
    ⟨some 206, .bin .gtr .num (.t 205) (.c (.int .i64 0)), some (204, false), 0, []⟩,
    ⟨some 207, .mv (.t 206), some (204, false), 0, []⟩,
    ⟨some 208, .mv (.t 13), some (207, true), 0, []⟩,
    ⟨some 209, .bin .gtr .num (.t 208) (.c (.int .i64 0)), some (207, true), 0, []⟩,
    ⟨some 210, .pick (.t 207) (.t 209) (.c (.bool false)), some (204, false), 0, []⟩,
    ⟨some 211, .mv (.t 210), some (204, false), 0, []⟩,
    ⟨some 212, .mv (.t 5), some (211, true), 0, []⟩,
    ⟨some 213, .fad 0 (.t 1), some (211, true), 0, []⟩,
    ⟨some 214, .load none (.t 213), some (211, true), 0, []⟩,
    ⟨some 215, .mv (.t 14), some (211, true), 0, []⟩,
    ⟨some 216, .mv (.t 13), some (211, true), 0, []⟩,
    ⟨some 217, .bin .sub .num (.t 216) (.c (.int .i64 1)), some (211, true), 0, []⟩,
    ⟨some 218, .mv (.t 15), some (211, true), 0, []⟩,
    ⟨some 219, .call (.f 195) [(.t 212), (.t 214), (.t 215), (.t 217), (.t 218)], some (211, true), 0, []⟩,
    ⟨some 220, .un .not (.t 219), some (211, true), 0, []⟩,
    ⟨some 221, .pick (.t 211) (.t 220) (.c (.bool false)), some (204, false), 0, []⟩,
    ⟨some 222, .pick (.t 204) (.c (.bool true)) (.t 221), none, 0, []⟩])
  (.cond (.t 222) (.seq (.reg false [2] [⟨some 2, .mv (.c (.bool false)), none, 0, []⟩])
  (.ret))
  (.skip))))))
  (.reg false [1, 5, 13, 14] [⟨some 152, .mv (.t 14), none, 0, []⟩,
    ⟨some 153, .bin .add .num (.t 152) (.c (.int .i64 1)), none, 0, []⟩,
    ⟨some 14, .mv (.t 153), none, 0, []⟩]))
def burinlaw10_CompsApart_l0 : Cd := .seq (.seq (.reg false [1, 5, 13, 145] [⟨some 142, .mv (.t 13), none, 0, []⟩,
    ⟨some 143, .fad 1 (.t 1), none, 0, []⟩,
    ⟨some 144, .load none (.t 143), none, 0, []⟩,
    ⟨some 145, .bin .lss .num (.t 142) (.t 144), none, 0, []⟩])
  (.cond (.t 145) (.skip)
  (.exit 6)))
  (.seq (.block 7 (.seq (.reg false [1, 5, 13, 14] [⟨some 14, .mv (.c (.int .i64 0)), none, 0, []⟩])
  (.block 8 (.loop [1, 5, 13, 14] burinlaw10_CompsApart_l1))))
  (.reg false [1, 5, 13] [⟨some 146, .mv (.t 13), none, 0, []⟩,
    ⟨some 147, .bin .add .num (.t 146) (.c (.int .i64 1)), none, 0, []⟩,
    ⟨some 13, .mv (.t 147), none, 0, []⟩]))
/-- burin/burinlaw10.CompsApart -/
def burinlaw10_CompsApart : AFun := ⟨1, 224, true, [.t 2],
  .seq (.reg false [1] [⟨some 1, .box 3 (.t 0), none, 0, []⟩,
    ⟨some 2, .mv (.c (.bool false)), none, 0, []⟩])
  (.seq (.seq (.reg false [1, 32] [⟨some 16, .load (some 3) (.t 1), none, 0, []⟩,
    ⟨some 17, .call (.f 76) [(.t 16)], none, 0, []⟩,
    ⟨some 18, .un .not (.t 17), none, 0, []⟩,
    ⟨some 19, .mv (.t 18), none, 0, []⟩,
    ⟨some 20, .fad 0 (.t 1), some (19, false), 0, []⟩,
    ⟨some 21, .load none (.t 20), some (19, false), 0, []⟩,
    ⟨some 22, .fad 1 (.t 1), some (19, false), 0, []⟩,
    ⟨some 23, .load none (.t 22), some (19, false), 0, []⟩,
    ⟨some 24, .bin .mul .num (.t 21) (.t 23), some (19, false), 0, []⟩,
    ⟨some 25, .bin .gtr .num (.t 24) (.c (.int .i64 3000)), some (19, false), 0, []⟩,
    ⟨some 26, .pick (.t 19) (.c (.bool true)) (.t 25), none, 0, []⟩,
    ⟨some 27, .mv (.t 26), none, 0, []⟩,
    ⟨some 28, .load (some 3) (.t 1), some (27, false), 0, []⟩,
    ⟨some 29, .bslice 3 [.int .i64 0, .int .i64 0, .sl none 0 0 0] 1 [(0, (.t 28))], some (27, false), 0, []⟩,
    ⟨some 30, .call (.f 98) [(.t 29), (.c (.int .i64 20000))], some (27, false), 0, []⟩,
    ⟨some 31, .un .not (.t 30), some (27, false), 0, []⟩,
    ⟨some 32, .pick (.t 27) (.c (.bool true)) (.t 31), none, 0, []⟩])
  (.cond (.t 32) (.seq (.reg false [2] [⟨some 33, .call (.f 178) [], none, 0, []⟩,
    ⟨some 2, .mv (.t 33), none, 0, []⟩])
  (.ret))
  (.skip)))
  (.seq (.reg false [1, 3, 4] [⟨some 35, .load (some 3) (.t 1), none, 0, []⟩,
    ⟨some 36, .call (.f 181) [(.t 35)], none, 0, []⟩,
    ⟨some 34, .mv (.t 36), none, 0, []⟩,
    ⟨some 37, .ext 0 (.t 34), none, 0, []⟩,
    ⟨some 38, .ext 1 (.t 34), none, 0, []⟩,
    ⟨some 3, .mv (.t 37), none, 0, []⟩,
    ⟨some 4, .mv (.t 38), none, 0, []⟩])
  (.seq (.seq (.reg false [1, 3, 40] [⟨some 39, .mv (.t 4), none, 0, []⟩,
    ⟨some 40, .bin .neq .num (.t 39) (.c (.int .i64 0)), none, 0, []⟩])
  (.cond (.t 40) (.seq (.reg false [2] [⟨some 2, .mv (.c (.bool false)), none, 0, []⟩])
  (.ret))
  (.skip)))
  (.seq (.reg false [1, 3, 5] [⟨some 41, .fad 0 (.t 1), none, 0, []⟩,
    ⟨some 42, .load none (.t 41), none, 0, []⟩,
    ⟨some 43, .fad 1 (.t 1), none, 0, []⟩,
    ⟨some 44, .load none (.t 43), none, 0, []⟩,
    ⟨some 45, .bin .mul .num (.t 42) (.t 44), none, 0, []⟩,
    ⟨some 46, .mkslice 1 8 [.int .i64 0] (.t 45) (.t 45), none, 0, []⟩,
    ⟨some 5, .mv (.t 46), none, 0, []⟩])
  (.seq (.reg false [1, 3, 5, 6] [⟨some 6, .mv (.c (.int .i64 (-1))), none, 0, []⟩])
  (.seq (.seq (.reg false [1, 3, 5, 6, 7] [⟨some 7, .mv (.c (.int .i64 0)), none, 0, []⟩])
  (.block 0 (.loop [1, 3, 5, 6, 7] burinlaw10_CompsApart_l2)))
  (.seq (.seq (.reg false [1, 5, 13] [⟨some 13, .mv (.c (.int .i64 0)), none, 0, []⟩])
  (.block 6 (.loop [1, 5, 13] burinlaw10_CompsApart_l0)))
  (.seq (.reg false [2] [⟨some 223, .call (.f 178) [], none, 0, []⟩,
    ⟨some 2, .mv (.t 223), none, 0, []⟩])
  (.ret)))))))))⟩

def burinlaw10_alike_l0 : Cd := .seq (.seq (.reg false [0, 1, 2, 3, 4, 11, 17] [⟨some 14, .mv (.t 11), none, 0, []⟩,
    ⟨some 15, .mv (.t 2), none, 0, []⟩,
    ⟨some 16, .bin .add .num (.t 15) (.c (.int .i64 1)), none, 0, []⟩,
    ⟨some 17, .bin .leq .num (.t 14) (.t 16), none, 0, []⟩])
  (.cond (.t 17) (.skip)
  (.exit 0)))
  (.seq (.block 1 (.seq (.reg false [0, 1, 2, 3, 4, 11, 49] [⟨some 20, .mv (.t 11), none, 0, []⟩,
    ⟨some 21, .bin .geq .num (.t 20) (.c (.int .i64 0)), none, 0, []⟩,
    ⟨some 22, .mv (.t 21), none, 0, []⟩,
    ⟨some 23, .mv (.t 11), some (22, true), 0, []⟩,
    ⟨some 24, .mv (.t 1), some (22, true), 0, []⟩,
    ⟨some 25, .bin .lss .num (.t 23) (.t 24), some (22, true), 0, []⟩,
    ⟨some 26, .pick (.t 22) (.t 25) (.c (.bool false)), none, 0, []⟩,
    ⟨some 27, .mv (.t 26), none, 0, []⟩,
    ⟨some 28, .mv (.t 0), some (27, true), 0, []⟩,
    ⟨some 29, .mv (.t 3), some (27, true), 0, []⟩,
    ⟨some 30, .mv (.t 1), some (27, true), 0, []⟩,
    ⟨some 31, .bin .mul .num (.t 29) (.t 30), some (27, true), 0, []⟩,
    ⟨some 32, .mv (.t 11), some (27, true), 0, []⟩,
    ⟨some 33, .bin .add .num (.t 31) (.t 32), some (27, true), 0, []⟩,
    ⟨some 34, .iad none 1 (.t 28) (.t 33), some (27, true), 0, []⟩,
    ⟨some 35, .load none (.t 34), some (27, true), 0, []⟩,
    ⟨some 36, .bin .gtr .num (.t 35) (.c (.int .i64 0)), some (27, true), 0, []⟩,
    ⟨some 37, .pick (.t 27) (.t 36) (.c (.bool false)), none, 0, []⟩,
    ⟨some 38, .mv (.t 37), none, 0, []⟩,
    ⟨some 39, .mv (.t 0), some (38, true), 0, []⟩,
    ⟨some 40, .mv (.t 3), some (38, true), 0, []⟩,
    ⟨some 41, .mv (.t 1), some (38, true), 0, []⟩,
    ⟨some 42, .bin .mul .num (.t 40) (.t 41), some (38, true), 0, []⟩,
    ⟨some 43, .mv (.t 11), some (38, true), 0, []⟩,
    ⟨some 44, .bin .add .num (.t 42) (.t 43), some (38, true), 0, []⟩,
    ⟨some 45, .iad none 1 (.t 39) (.t 44), some (38, true), 0, []⟩,
    ⟨some 46, .load none (.t 45), some (38, true), 0, []⟩,
    ⟨some 47, .mv (.t 4), some (38, true), 0, []⟩,
    ⟨some 48, .bin .neq .num (.t 46) (.t 47), some (38, true), 0, []⟩,
    ⟨some 49, .pick (.t 38) (.t 48) (.c (.bool false)), none, 0, []⟩])
  (.cond (.t 49) (.seq (.reg false [10] [⟨some 10, .mv (.c (.bool false)), none, 0, []⟩])
  (.ret))
  (.skip))))
  (.reg false [0, 1, 2, 3, 4, 11] [⟨some 18, .mv (.t 11), none, 0, []⟩,
    ⟨some 19, .bin .add .num (.t 18) (.c (.int .i64 1)), none, 0, []⟩,
    ⟨some 11, .mv (.t 19), none, 0, []⟩]))
/-- burin/burinlaw10.alike -/
def burinlaw10_alike : AFun := ⟨5, 50, true, [.t 10],
  .seq (.reg false [0, 1, 2, 3, 4] [⟨some 10, .mv (.c (.bool false)), none, 0, []⟩])
  (.seq (.seq (.reg false [0, 1, 2, 3, 4, 11] [⟨some 12, .mv (.t 2), none, 0, []⟩,
    ⟨some 13, .bin .sub .num (.t 12) (.c (.int .i64 1)), none, 0, []⟩,
    ⟨some 11, .mv (.t 13), none, 0, []⟩])
  (.block 0 (.loop [0, 1, 2, 3, 4, 11] burinlaw10_alike_l0)))
  (.seq (.reg false [10] [⟨some 10, .mv (.c (.bool true)), none, 0, []⟩])
  (.ret)))⟩

/-- A program that has them. -/
structure HasL10Apart (P : Prog) : Prop where
  h_burinlaw10_CompsApart : P 196 = some burinlaw10_CompsApart
  h_burinlaw10_alike : P 195 = some burinlaw10_alike

end Go.Ab
