/- The texts of functions of the given program, for the abstract machine: written by wip/tools/gen.py out of Lean's print of the translation. Conditions: none; definitions alone. -/
import Derived.Test.YtnpdnkmnnmmagaaK1
set_option linter.all false
namespace Go.Ab
-- burinlaw1_wakes: 32, parameters ; loops 
-- burinlaw1_BitsVars: 33, parameters ?; loops burinlaw1_BitsVars_l0 [0 ?, 3 ?]; burinlaw1_BitsVars_l1 [0 ?, 3 ?, 6 ?, 12 ?]; burinlaw1_BitsVars_l2 [0 ?, 3 ?, 6 ?, 7 ?, 8 ?]
-- burinlaw1_BitsWrites: 34, parameters ?; loops burinlaw1_BitsWrites_l0 [1 ?, 3 ?, 5 ?, 6 ?]
-- burinlaw1_BitsRoom: 35, parameters ?; loops burinlaw1_BitsRoom_l0 [3 ?, 4 ?]; burinlaw1_BitsRoom_l1 [1 ?, 3 ?, 4 ?, 6 ?]
-- burinlaw1_BitsParts: 36, parameters ?; loops burinlaw1_BitsParts_l0 [1 ?, 12 ?, 13 ?, 14 ?]; burinlaw1_BitsParts_l1 [1 ?, 3 ?, 5 ?, 7 ?]
-- burinlaw1_BitsReads: 37, parameters ?; loops burinlaw1_BitsReads_l0 [1 ?, 4 ?, 5 ?, 6 ?]
-- burinlaw1_BitsBack: 38, parameters ?; loops burinlaw1_BitsBack_l0 [5 ?, 9 ?, 10 ?, 11 ?]; burinlaw1_BitsBack_l1 [1 ?, 3 ?, 5 ?, 6 ?]

/-- burin/burinlaw1.wakes -/
def burinlaw1_wakes : AFun := ⟨0, 56, true, [.t 0],
  .seq (.reg false [] [⟨some 0, .mv (.c (.bool false)), none, 0, []⟩])
  (.seq (.reg false [1, 2] [⟨some 8, .call (.f 4) [(.c (.int .i64 4))], none, 0, []⟩,
    ⟨some 7, .mv (.t 8), none, 0, []⟩,
    ⟨some 9, .ext 0 (.t 7), none, 0, []⟩,
    ⟨some 10, .ext 1 (.t 7), none, 0, []⟩,
    ⟨some 1, .mv (.t 9), none, 0, []⟩,
    ⟨some 2, .mv (.t 10), none, 0, []⟩])
  (.seq (.seq (.reg false [1, 26] [⟨some 11, .mv (.t 2), none, 0, []⟩,
    ⟨some 12, .bin .neq .num (.t 11) (.c (.int .i64 0)), none, 0, []⟩,
    ⟨some 13, .mv (.t 12), none, 0, []⟩,
    ⟨some 14, .mv (.t 1), some (13, false), 0, []⟩,
    ⟨some 15, .bin .eql .ptr (.t 14) (.c (.ptr none)), some (13, false), 0, []⟩,
    ⟨some 16, .pick (.t 13) (.c (.bool true)) (.t 15), none, 0, []⟩,
    ⟨some 17, .mv (.t 16), none, 0, []⟩,
    ⟨some 18, .mv (.t 1), some (17, false), 0, []⟩,
    ⟨some 19, .call (.f 5) [(.t 18), (.c (.int .u64 5)), (.c (.int .i64 3))], some (17, false), 0, []⟩,
    ⟨some 20, .bin .neq .num (.t 19) (.c (.int .i64 0)), some (17, false), 0, []⟩,
    ⟨some 21, .pick (.t 17) (.c (.bool true)) (.t 20), none, 0, []⟩,
    ⟨some 22, .mv (.t 21), none, 0, []⟩,
    ⟨some 23, .mv (.t 1), some (22, false), 0, []⟩,
    ⟨some 24, .call (.f 5) [(.t 23), (.c (.int .u64 1)), (.c (.int .i64 1))], some (22, false), 0, []⟩,
    ⟨some 25, .bin .neq .num (.t 24) (.c (.int .i64 0)), some (22, false), 0, []⟩,
    ⟨some 26, .pick (.t 22) (.c (.bool true)) (.t 25), none, 0, []⟩])
  (.cond (.t 26) (.seq (.reg false [0] [⟨some 0, .mv (.c (.bool false)), none, 0, []⟩])
  (.ret))
  (.skip)))
  (.seq (.reg false [1] [⟨some 27, .mv (.t 1), none, 0, []⟩,
    ⟨some 28, .call (.f 7) [(.t 27)], none, 0, []⟩])
  (.seq (.reg false [1, 3] [⟨some 29, .mv (.t 1), none, 0, []⟩,
    ⟨some 30, .call (.f 6) [(.t 29), (.c (.int .u64 300))], none, 0, []⟩,
    ⟨some 3, .mv (.t 30), none, 0, []⟩])
  (.seq (.reg false [1, 3, 4] [⟨some 31, .bslice 1 [.int .u8 0] 2 [(0, (.c (.int .u8 172))), (1, (.c (.int .u8 2)))], none, 0, []⟩,
    ⟨some 32, .call (.f 10) [(.t 31)], none, 0, []⟩,
    ⟨some 4, .mv (.t 32), none, 0, []⟩])
  (.seq (.seq (.reg false [1, 3, 4, 34] [⟨some 33, .mv (.t 4), none, 0, []⟩,
    ⟨some 34, .bin .eql .ptr (.t 33) (.c (.ptr none)), none, 0, []⟩])
  (.cond (.t 34) (.seq (.reg false [0] [⟨some 0, .mv (.c (.bool false)), none, 0, []⟩])
  (.ret))
  (.skip)))
  (.seq (.reg false [1, 3, 5, 6] [⟨some 36, .mv (.t 4), none, 0, []⟩,
    ⟨some 37, .call (.f 15) [(.t 36)], none, 0, []⟩,
    ⟨some 35, .mv (.t 37), none, 0, []⟩,
    ⟨some 38, .ext 0 (.t 35), none, 0, []⟩,
    ⟨some 39, .ext 1 (.t 35), none, 0, []⟩,
    ⟨some 5, .mv (.t 38), none, 0, []⟩,
    ⟨some 6, .mv (.t 39), none, 0, []⟩])
  (.seq (.reg false [0] [⟨some 40, .mv (.t 3), none, 0, []⟩,
    ⟨some 41, .bin .eql .num (.t 40) (.c (.int .i64 0)), none, 0, []⟩,
    ⟨some 42, .mv (.t 41), none, 0, []⟩,
    ⟨some 43, .mv (.t 1), some (42, true), 0, []⟩,
    ⟨some 44, .call (.f 9) [(.t 43)], some (42, true), 0, []⟩,
    ⟨some 45, .bslice 1 [.int .u8 0] 3 [(0, (.c (.int .u8 176))), (1, (.c (.int .u8 172))), (2, (.c (.int .u8 2)))], some (42, true), 0, []⟩,
    ⟨some 46, .call (.f 26) [(.t 44), (.t 45)], some (42, true), 0, []⟩,
    ⟨some 47, .pick (.t 42) (.t 46) (.c (.bool false)), none, 0, []⟩,
    ⟨some 48, .mv (.t 47), none, 0, []⟩,
    ⟨some 49, .mv (.t 5), some (48, true), 0, []⟩,
    ⟨some 50, .bin .eql .num (.t 49) (.c (.int .u64 300)), some (48, true), 0, []⟩,
    ⟨some 51, .pick (.t 48) (.t 50) (.c (.bool false)), none, 0, []⟩,
    ⟨some 52, .mv (.t 51), none, 0, []⟩,
    ⟨some 53, .mv (.t 6), some (52, true), 0, []⟩,
    ⟨some 54, .bin .eql .num (.t 53) (.c (.int .i64 0)), some (52, true), 0, []⟩,
    ⟨some 55, .pick (.t 52) (.t 54) (.c (.bool false)), none, 0, []⟩,
    ⟨some 0, .mv (.t 55), none, 0, []⟩])
  (.ret)))))))))⟩

def burinlaw1_BitsVars_l2 : Cd := .seq (.seq (.reg false [0, 3, 6, 7, 8, 53] [⟨some 52, .mv (.t 8), none, 0, []⟩,
    ⟨some 53, .bin .gtr .num (.t 52) (.c (.int .u64 0)), none, 0, []⟩])
  (.cond (.t 53) (.skip)
  (.exit 2)))
  (.seq (.block 3 (.reg false [0, 3, 6, 7, 8] [⟨some 56, .mv (.t 7), none, 0, []⟩,
    ⟨some 57, .bin .add .num (.t 56) (.c (.int .i64 1)), none, 0, []⟩,
    ⟨some 7, .mv (.t 57), none, 0, []⟩]))
  (.reg false [0, 3, 6, 7, 8] [⟨some 54, .mv (.t 8), none, 0, []⟩,
    ⟨some 55, .bin .shr .num (.t 54) (.c (.int .u64 7)), none, 0, []⟩,
    ⟨some 8, .mv (.t 55), none, 0, []⟩]))
def burinlaw1_BitsVars_l1 : Cd := .seq (.seq (.reg false [0, 3, 6, 12, 94] [⟨some 91, .mv (.t 12), none, 0, []⟩,
    ⟨some 92, .mv (.t 6), none, 0, []⟩,
    ⟨some 93, .len none (.t 92), none, 0, []⟩,
    ⟨some 94, .bin .lss .num (.t 91) (.t 93), none, 0, []⟩])
  (.cond (.t 94) (.skip)
  (.exit 4)))
  (.seq (.block 5 (.seq (.reg false [0, 3, 6, 12, 13] [⟨some 97, .mv (.t 6), none, 0, []⟩,
    ⟨some 98, .mv (.t 12), none, 0, []⟩,
    ⟨some 99, .slice 1 (.t 97) none (some (.t 98)) none, none, 0, []⟩,
    ⟨some 100, .call (.f 10) [(.t 99)], none, 0, []⟩,
    ⟨some 13, .mv (.t 100), none, 0, []⟩])
  (.seq (.seq (.reg false [0, 3, 6, 12, 13, 102] [⟨some 101, .mv (.t 13), none, 0, []⟩,
    ⟨some 102, .bin .eql .ptr (.t 101) (.c (.ptr none)), none, 0, []⟩])
  (.cond (.t 102) (.seq (.reg false [2] [⟨some 2, .mv (.c (.bool false)), none, 0, []⟩])
  (.ret))
  (.skip)))
  (.seq (.reg false [0, 3, 6, 12, 13, 15] [⟨some 104, .mv (.t 13), none, 0, []⟩,
    ⟨some 105, .call (.f 15) [(.t 104)], none, 0, []⟩,
    ⟨some 103, .mv (.t 105), none, 0, []⟩,
    ⟨some 106, .ext 0 (.t 103), none, 0, []⟩,
    ⟨some 107, .ext 1 (.t 103), none, 0, []⟩,
    ⟨some 14, .mv (.t 106), none, 0, []⟩,
    ⟨some 15, .mv (.t 107), none, 0, []⟩])
  (.seq (.reg false [0, 3, 6, 12, 116] [⟨some 108, .mv (.t 15), none, 0, []⟩,
    ⟨some 109, .bin .neq .num (.t 108) (.c (.int .i64 14)), none, 0, []⟩,
    ⟨some 110, .mv (.t 109), none, 0, []⟩,
    ⟨some 111, .mv (.t 13), some (110, false), 0, []⟩,
    ⟨some 112, .call (.f 11) [(.t 111)], some (110, false), 0, []⟩,
    ⟨some 113, .mv (.t 12), some (110, false), 0, []⟩,
    ⟨some 114, .bin .mul .num (.c (.int .i64 8)) (.t 113), some (110, false), 0, []⟩,
    ⟨some 115, .bin .neq .num (.t 112) (.t 114), some (110, false), 0, []⟩,
    ⟨some 116, .pick (.t 110) (.c (.bool true)) (.t 115), none, 0, []⟩])
  (.cond (.t 116) (.seq (.reg false [2] [⟨some 2, .mv (.c (.bool false)), none, 0, []⟩])
  (.ret))
  (.skip)))))))
  (.reg false [0, 3, 6, 12] [⟨some 95, .mv (.t 12), none, 0, []⟩,
    ⟨some 96, .bin .add .num (.t 95) (.c (.int .i64 1)), none, 0, []⟩,
    ⟨some 12, .mv (.t 96), none, 0, []⟩]))
def burinlaw1_BitsVars_l0 : Cd := .seq (.seq (.reg false [0, 3, 23] [⟨some 16, .mv (.t 3), none, 0, []⟩,
    ⟨some 17, .mv (.t 0), none, 0, []⟩,
    ⟨some 18, .len none (.t 17), none, 0, []⟩,
    ⟨some 19, .bin .lss .num (.t 16) (.t 18), none, 0, []⟩,
    ⟨some 20, .mv (.t 19), none, 0, []⟩,
    ⟨some 21, .mv (.t 3), some (20, true), 0, []⟩,
    ⟨some 22, .bin .lss .num (.t 21) (.c (.int .i64 60)), some (20, true), 0, []⟩,
    ⟨some 23, .pick (.t 20) (.t 22) (.c (.bool false)), none, 0, []⟩])
  (.cond (.t 23) (.skip)
  (.exit 0)))
  (.seq (.block 1 (.seq (.reg false [0, 3, 4, 5] [⟨some 27, .call (.f 4) [(.c (.int .i64 20))], none, 0, []⟩,
    ⟨some 26, .mv (.t 27), none, 0, []⟩,
    ⟨some 28, .ext 0 (.t 26), none, 0, []⟩,
    ⟨some 29, .ext 1 (.t 26), none, 0, []⟩,
    ⟨some 4, .mv (.t 28), none, 0, []⟩,
    ⟨some 5, .mv (.t 29), none, 0, []⟩])
  (.seq (.seq (.reg false [0, 3, 4, 44] [⟨some 30, .mv (.t 5), none, 0, []⟩,
    ⟨some 31, .bin .neq .num (.t 30) (.c (.int .i64 0)), none, 0, []⟩,
    ⟨some 32, .mv (.t 31), none, 0, []⟩,
    ⟨some 33, .mv (.t 4), some (32, false), 0, []⟩,
    ⟨some 34, .bin .eql .ptr (.t 33) (.c (.ptr none)), some (32, false), 0, []⟩,
    ⟨some 35, .pick (.t 32) (.c (.bool true)) (.t 34), none, 0, []⟩,
    ⟨some 36, .mv (.t 35), none, 0, []⟩,
    ⟨some 37, .mv (.t 4), some (36, false), 0, []⟩,
    ⟨some 38, .mv (.t 0), some (36, false), 0, []⟩,
    ⟨some 39, .mv (.t 3), some (36, false), 0, []⟩,
    ⟨some 40, .iad none 1 (.t 38) (.t 39), some (36, false), 0, []⟩,
    ⟨some 41, .load none (.t 40), some (36, false), 0, []⟩,
    ⟨some 42, .call (.f 6) [(.t 37), (.t 41)], some (36, false), 0, []⟩,
    ⟨some 43, .bin .neq .num (.t 42) (.c (.int .i64 0)), some (36, false), 0, []⟩,
    ⟨some 44, .pick (.t 36) (.c (.bool true)) (.t 43), none, 0, []⟩])
  (.cond (.t 44) (.seq (.reg false [2] [⟨some 2, .mv (.c (.bool false)), none, 0, []⟩])
  (.ret))
  (.skip)))
  (.seq (.reg false [0, 3, 6] [⟨some 45, .mv (.t 4), none, 0, []⟩,
    ⟨some 46, .call (.f 9) [(.t 45)], none, 0, []⟩,
    ⟨some 6, .mv (.t 46), none, 0, []⟩])
  (.seq (.reg false [0, 3, 6, 7] [⟨some 7, .mv (.c (.int .i64 1)), none, 0, []⟩])
  (.seq (.seq (.reg false [0, 3, 6, 7, 8] [⟨some 47, .mv (.t 0), none, 0, []⟩,
    ⟨some 48, .mv (.t 3), none, 0, []⟩,
    ⟨some 49, .iad none 1 (.t 47) (.t 48), none, 0, []⟩,
    ⟨some 50, .load none (.t 49), none, 0, []⟩,
    ⟨some 51, .bin .shr .num (.t 50) (.c (.int .u64 7)), none, 0, []⟩,
    ⟨some 8, .mv (.t 51), none, 0, []⟩])
  (.block 2 (.loop [0, 3, 6, 7, 8] burinlaw1_BitsVars_l2)))
  (.seq (.reg false [0, 3, 6, 7, 9] [⟨some 58, .mv (.t 6), none, 0, []⟩,
    ⟨some 59, .call (.f 27) [(.t 58)], none, 0, []⟩,
    ⟨some 60, .bslice 1 [.int .u8 0] 1 [(0, (.c (.int .u8 255)))], none, 0, []⟩,
    ⟨some 61, .append 1 1 (.t 59) (.t 60), none, 0, []⟩,
    ⟨some 62, .call (.f 10) [(.t 61)], none, 0, []⟩,
    ⟨some 9, .mv (.t 62), none, 0, []⟩])
  (.seq (.seq (.reg false [0, 3, 6, 9, 70] [⟨some 63, .mv (.t 9), none, 0, []⟩,
    ⟨some 64, .bin .eql .ptr (.t 63) (.c (.ptr none)), none, 0, []⟩,
    ⟨some 65, .mv (.t 64), none, 0, []⟩,
    ⟨some 66, .mv (.t 6), some (65, false), 0, []⟩,
    ⟨some 67, .len none (.t 66), some (65, false), 0, []⟩,
    ⟨some 68, .mv (.t 7), some (65, false), 0, []⟩,
    ⟨some 69, .bin .neq .num (.t 67) (.t 68), some (65, false), 0, []⟩,
    ⟨some 70, .pick (.t 65) (.c (.bool true)) (.t 69), none, 0, []⟩])
  (.cond (.t 70) (.seq (.reg false [2] [⟨some 2, .mv (.c (.bool false)), none, 0, []⟩])
  (.ret))
  (.skip)))
  (.seq (.reg false [0, 3, 6, 9, 10, 11] [⟨some 72, .mv (.t 9), none, 0, []⟩,
    ⟨some 73, .call (.f 15) [(.t 72)], none, 0, []⟩,
    ⟨some 71, .mv (.t 73), none, 0, []⟩,
    ⟨some 74, .ext 0 (.t 71), none, 0, []⟩,
    ⟨some 75, .ext 1 (.t 71), none, 0, []⟩,
    ⟨some 10, .mv (.t 74), none, 0, []⟩,
    ⟨some 11, .mv (.t 75), none, 0, []⟩])
  (.seq (.seq (.reg false [0, 3, 6, 90] [⟨some 76, .mv (.t 10), none, 0, []⟩,
    ⟨some 77, .mv (.t 0), none, 0, []⟩,
    ⟨some 78, .mv (.t 3), none, 0, []⟩,
    ⟨some 79, .iad none 1 (.t 77) (.t 78), none, 0, []⟩,
    ⟨some 80, .load none (.t 79), none, 0, []⟩,
    ⟨some 81, .bin .neq .num (.t 76) (.t 80), none, 0, []⟩,
    ⟨some 82, .mv (.t 81), none, 0, []⟩,
    ⟨some 83, .mv (.t 11), some (82, false), 0, []⟩,
    ⟨some 84, .bin .neq .num (.t 83) (.c (.int .i64 0)), some (82, false), 0, []⟩,
    ⟨some 85, .pick (.t 82) (.c (.bool true)) (.t 84), none, 0, []⟩,
    ⟨some 86, .mv (.t 85), none, 0, []⟩,
    ⟨some 87, .mv (.t 9), some (86, false), 0, []⟩,
    ⟨some 88, .call (.f 11) [(.t 87)], some (86, false), 0, []⟩,
    ⟨some 89, .bin .neq .num (.t 88) (.c (.int .i64 8)), some (86, false), 0, []⟩,
    ⟨some 90, .pick (.t 86) (.c (.bool true)) (.t 89), none, 0, []⟩])
  (.cond (.t 90) (.seq (.reg false [2] [⟨some 2, .mv (.c (.bool false)), none, 0, []⟩])
  (.ret))
  (.skip)))
  (.seq (.reg false [0, 3, 6, 12] [⟨some 12, .mv (.c (.int .i64 0)), none, 0, []⟩])
  (.block 4 (.loop [0, 3, 6, 12] burinlaw1_BitsVars_l1)))))))))))))
  (.reg false [0, 3] [⟨some 24, .mv (.t 3), none, 0, []⟩,
    ⟨some 25, .bin .add .num (.t 24) (.c (.int .i64 1)), none, 0, []⟩,
    ⟨some 3, .mv (.t 25), none, 0, []⟩]))
/-- burin/burinlaw1.BitsVars -/
def burinlaw1_BitsVars : AFun := ⟨1, 118, true, [.t 2],
  .seq (.reg false [0] [⟨some 2, .mv (.c (.bool false)), none, 0, []⟩])
  (.seq (.seq (.reg false [0, 3] [⟨some 3, .mv (.c (.int .i64 0)), none, 0, []⟩])
  (.block 0 (.loop [0, 3] burinlaw1_BitsVars_l0)))
  (.seq (.reg false [2] [⟨some 117, .call (.f 32) [], none, 0, []⟩,
    ⟨some 2, .mv (.t 117), none, 0, []⟩])
  (.ret)))⟩

def burinlaw1_BitsWrites_l0 : Cd := .seq (.seq (.reg false [1, 3, 5, 6, 52] [⟨some 44, .mv (.t 6), none, 0, []⟩,
    ⟨some 45, .fad 1 (.t 1), none, 0, []⟩,
    ⟨some 46, .load none (.t 45), none, 0, []⟩,
    ⟨some 47, .len none (.t 46), none, 0, []⟩,
    ⟨some 48, .bin .lss .num (.t 44) (.t 47), none, 0, []⟩,
    ⟨some 49, .mv (.t 48), none, 0, []⟩,
    ⟨some 50, .mv (.t 6), some (49, true), 0, []⟩,
    ⟨some 51, .bin .lss .num (.t 50) (.c (.int .i64 300)), some (49, true), 0, []⟩,
    ⟨some 52, .pick (.t 49) (.t 51) (.c (.bool false)), none, 0, []⟩])
  (.cond (.t 52) (.skip)
  (.exit 0)))
  (.seq (.block 1 (.seq (.reg false [1, 3, 5, 6, 7] [⟨some 55, .fad 1 (.t 1), none, 0, []⟩,
    ⟨some 56, .load none (.t 55), none, 0, []⟩,
    ⟨some 57, .mv (.t 6), none, 0, []⟩,
    ⟨some 58, .iad none 3 (.t 56) (.t 57), none, 0, []⟩,
    ⟨some 59, .load (some 3) (.t 58), none, 0, []⟩,
    ⟨some 7, .alloc [.int .i64 0, .int .u64 0, .int .i64 0], none, 0, []⟩,
    ⟨none, .store 3 (.t 7) (.t 59), none, 0, []⟩])
  (.seq (.reg false [1, 3, 5, 6, 7, 8, 9] [⟨some 8, .mv (.c (.int .i64 0)), none, 0, []⟩,
    ⟨some 9, .mv (.c (.int .i64 0)), none, 0, []⟩])
  (.seq (.seq (.reg false [1, 3, 5, 6, 7, 8, 9, 61] [⟨some 60, .fad 0 (.t 7), none, 0, []⟩,
    ⟨some 61, .load none (.t 60), none, 0, []⟩])
  (.block 2 (.seq (.reg false [1, 3, 5, 6, 7, 8, 9, 61, 66] [⟨some 67, .bin .eql .num (.t 61) (.c (.int .i64 0)), none, 0, []⟩,
    ⟨some 66, .mv (.t 67), none, 0, []⟩])
  (.cond (.t 66) (.seq (.reg false [1, 3, 5, 6, 7, 8] [⟨some 68, .mv (.t 3), none, 0, []⟩,
    ⟨some 69, .fad 1 (.t 7), none, 0, []⟩,
    ⟨some 70, .load none (.t 69), none, 0, []⟩,
    ⟨some 71, .fad 2 (.t 7), none, 0, []⟩,
    ⟨some 72, .load none (.t 71), none, 0, []⟩,
    ⟨some 73, .call (.f 5) [(.t 68), (.t 70), (.t 72)], none, 0, []⟩,
    ⟨some 8, .mv (.t 73), none, 0, []⟩])
  (.reg false [1, 3, 5, 6, 8, 9] [⟨some 74, .mv (.t 5), none, 0, []⟩,
    ⟨some 75, .fad 1 (.t 7), none, 0, []⟩,
    ⟨some 76, .load none (.t 75), none, 0, []⟩,
    ⟨some 77, .fad 2 (.t 7), none, 0, []⟩,
    ⟨some 78, .load none (.t 77), none, 0, []⟩,
    ⟨some 79, .call (.f 17) [(.t 74), (.t 76), (.t 78)], none, 0, []⟩,
    ⟨some 9, .mv (.t 79), none, 0, []⟩]))
  (.seq (.reg false [1, 3, 5, 6, 7, 8, 9, 80] [⟨some 81, .bin .eql .num (.t 61) (.c (.int .i64 1)), none, 0, []⟩,
    ⟨some 80, .mv (.t 81), none, 0, []⟩])
  (.cond (.t 80) (.seq (.reg false [1, 3, 5, 6, 7, 8] [⟨some 82, .mv (.t 3), none, 0, []⟩,
    ⟨some 83, .fad 1 (.t 7), none, 0, []⟩,
    ⟨some 84, .load none (.t 83), none, 0, []⟩,
    ⟨some 85, .call (.f 6) [(.t 82), (.t 84)], none, 0, []⟩,
    ⟨some 8, .mv (.t 85), none, 0, []⟩])
  (.reg false [1, 3, 5, 6, 8, 9] [⟨some 86, .mv (.t 5), none, 0, []⟩,
    ⟨some 87, .fad 1 (.t 7), none, 0, []⟩,
    ⟨some 88, .load none (.t 87), none, 0, []⟩,
    ⟨some 89, .call (.f 19) [(.t 86), (.t 88)], none, 0, []⟩,
    ⟨some 9, .mv (.t 89), none, 0, []⟩]))
  (.seq (.reg false [1, 3, 5, 6, 8, 9] [⟨some 62, .mv (.t 3), none, 0, []⟩,
    ⟨some 63, .call (.f 7) [(.t 62)], none, 0, []⟩])
  (.reg false [1, 3, 5, 6, 8, 9] [⟨some 64, .mv (.t 5), none, 0, []⟩,
    ⟨some 65, .call (.f 20) [(.t 64)], none, 0, []⟩]))))))))
  (.seq (.reg false [1, 3, 5, 6, 8, 9, 10] [⟨some 90, .mv (.t 3), none, 0, []⟩,
    ⟨some 91, .call (.f 9) [(.t 90)], none, 0, []⟩,
    ⟨some 10, .mv (.t 91), none, 0, []⟩])
  (.seq (.seq (.reg true [1, 3, 5, 6, 10, 111] [⟨some 92, .mv (.t 8), none, 0, []⟩,
    ⟨some 93, .mv (.t 9), none, 1, []⟩,
    ⟨some 94, .bin .neq .num (.t 92) (.t 93), none, 2, []⟩,
    ⟨some 95, .mv (.t 94), none, 3, []⟩,
    ⟨some 96, .mv (.t 3), some (95, false), 4, []⟩,
    ⟨some 98, .mv (.t 5), some (95, false), 6, []⟩,
    ⟨some 99, .nilck (.t 98), some (95, false), 7, []⟩,
    ⟨some 100, .fad 1 (.t 99), some (95, false), 8, []⟩,
    ⟨some 101, .load none (.t 100), some (95, false), 9, []⟩,
    ⟨some 102, .len none (.t 101), some (95, false), 10, []⟩,
    ⟨some 97, .call (.f 8) [(.t 96)], some (95, false), 5, [9]⟩,
    ⟨some 103, .bin .neq .num (.t 97) (.t 102), some (95, false), 11, []⟩,
    ⟨some 104, .pick (.t 95) (.c (.bool true)) (.t 103), none, 12, []⟩,
    ⟨some 105, .mv (.t 104), none, 13, []⟩,
    ⟨some 106, .mv (.t 10), some (105, false), 14, []⟩,
    ⟨some 107, .mv (.t 5), some (105, false), 15, []⟩,
    ⟨some 108, .call (.f 21) [(.t 107)], some (105, false), 16, []⟩,
    ⟨some 109, .call (.f 26) [(.t 106), (.t 108)], some (105, false), 17, []⟩,
    ⟨some 110, .un .not (.t 109), some (105, false), 18, []⟩,
    ⟨some 111, .pick (.t 105) (.c (.bool true)) (.t 110), none, 19, []⟩])
  (.cond (.t 111) (.seq (.reg false [2] [⟨some 2, .mv (.c (.bool false)), none, 0, []⟩])
  (.ret))
  (.skip)))
  (.reg false [1, 3, 5, 6] [⟨some 112, .mv (.t 10), none, 0, []⟩,
    ⟨some 113, .call (.f 28) [(.t 112)], none, 0, []⟩])))))))
  (.reg false [1, 3, 5, 6] [⟨some 53, .mv (.t 6), none, 0, []⟩,
    ⟨some 54, .bin .add .num (.t 53) (.c (.int .i64 1)), none, 0, []⟩,
    ⟨some 6, .mv (.t 54), none, 0, []⟩]))
/-- burin/burinlaw1.BitsWrites -/
def burinlaw1_BitsWrites : AFun := ⟨1, 115, true, [.t 2],
  .seq (.reg false [1] [⟨some 1, .box 2 (.t 0), none, 0, []⟩,
    ⟨some 2, .mv (.c (.bool false)), none, 0, []⟩])
  (.seq (.reg false [1, 3, 4] [⟨some 12, .fad 0 (.t 1), none, 0, []⟩,
    ⟨some 13, .load none (.t 12), none, 0, []⟩,
    ⟨some 14, .call (.f 4) [(.t 13)], none, 0, []⟩,
    ⟨some 11, .mv (.t 14), none, 0, []⟩,
    ⟨some 15, .ext 0 (.t 11), none, 0, []⟩,
    ⟨some 16, .ext 1 (.t 11), none, 0, []⟩,
    ⟨some 3, .mv (.t 15), none, 0, []⟩,
    ⟨some 4, .mv (.t 16), none, 0, []⟩])
  (.seq (.seq (.reg false [1, 3, 4, 24] [⟨some 17, .fad 0 (.t 1), none, 0, []⟩,
    ⟨some 18, .load none (.t 17), none, 0, []⟩,
    ⟨some 19, .bin .lss .num (.t 18) (.c (.int .i64 0)), none, 0, []⟩,
    ⟨some 20, .mv (.t 19), none, 0, []⟩,
    ⟨some 21, .fad 0 (.t 1), some (20, false), 0, []⟩,
    ⟨some 22, .load none (.t 21), some (20, false), 0, []⟩,
    ⟨some 23, .bin .gtr .num (.t 22) (.c (.int .i64 67108864)), some (20, false), 0, []⟩,
    ⟨some 24, .pick (.t 20) (.c (.bool true)) (.t 23), none, 0, []⟩])
  (.cond (.t 24) (.seq (.reg false [2] [⟨some 25, .mv (.t 3), none, 0, []⟩,
    ⟨some 26, .bin .eql .ptr (.t 25) (.c (.ptr none)), none, 0, []⟩,
    ⟨some 27, .mv (.t 26), none, 0, []⟩,
    ⟨some 28, .mv (.t 4), some (27, true), 0, []⟩,
    ⟨some 29, .bin .eql .num (.t 28) (.c (.int .i64 10)), some (27, true), 0, []⟩,
    ⟨some 30, .pick (.t 27) (.t 29) (.c (.bool false)), none, 0, []⟩,
    ⟨some 31, .mv (.t 30), none, 0, []⟩,
    ⟨some 32, .call (.f 32) [], some (31, true), 0, []⟩,
    ⟨some 33, .pick (.t 31) (.t 32) (.c (.bool false)), none, 0, []⟩,
    ⟨some 2, .mv (.t 33), none, 0, []⟩])
  (.ret))
  (.skip)))
  (.seq (.seq (.reg false [1, 3, 39] [⟨some 34, .mv (.t 3), none, 0, []⟩,
    ⟨some 35, .bin .eql .ptr (.t 34) (.c (.ptr none)), none, 0, []⟩,
    ⟨some 36, .mv (.t 35), none, 0, []⟩,
    ⟨some 37, .mv (.t 4), some (36, false), 0, []⟩,
    ⟨some 38, .bin .neq .num (.t 37) (.c (.int .i64 0)), some (36, false), 0, []⟩,
    ⟨some 39, .pick (.t 36) (.c (.bool true)) (.t 38), none, 0, []⟩])
  (.cond (.t 39) (.seq (.reg false [2] [⟨some 2, .mv (.c (.bool false)), none, 0, []⟩])
  (.ret))
  (.skip)))
  (.seq (.reg false [1, 3, 5] [⟨some 40, .fad 0 (.t 1), none, 0, []⟩,
    ⟨some 41, .load none (.t 40), none, 0, []⟩,
    ⟨some 42, .build [.int .i64 0, .sl none 0 0 0] [(0, 1, (.t 41))], none, 0, []⟩,
    ⟨some 43, .box 2 (.t 42), none, 0, []⟩,
    ⟨some 5, .mv (.t 43), none, 0, []⟩])
  (.seq (.seq (.reg false [1, 3, 5, 6] [⟨some 6, .mv (.c (.int .i64 0)), none, 0, []⟩])
  (.block 0 (.loop [1, 3, 5, 6] burinlaw1_BitsWrites_l0)))
  (.seq (.reg false [2] [⟨some 114, .call (.f 32) [], none, 0, []⟩,
    ⟨some 2, .mv (.t 114), none, 0, []⟩])
  (.ret)))))))⟩

def burinlaw1_BitsRoom_l1 : Cd := .seq (.seq (.reg false [1, 3, 4, 6, 33] [⟨some 25, .mv (.t 6), none, 0, []⟩,
    ⟨some 26, .fad 1 (.t 1), none, 0, []⟩,
    ⟨some 27, .load none (.t 26), none, 0, []⟩,
    ⟨some 28, .len none (.t 27), none, 0, []⟩,
    ⟨some 29, .bin .lss .num (.t 25) (.t 28), none, 0, []⟩,
    ⟨some 30, .mv (.t 29), none, 0, []⟩,
    ⟨some 31, .mv (.t 6), some (30, true), 0, []⟩,
    ⟨some 32, .bin .lss .num (.t 31) (.c (.int .i64 300)), some (30, true), 0, []⟩,
    ⟨some 33, .pick (.t 30) (.t 32) (.c (.bool false)), none, 0, []⟩])
  (.cond (.t 33) (.skip)
  (.exit 0)))
  (.seq (.block 1 (.seq (.reg false [1, 3, 4, 6, 7] [⟨some 36, .fad 1 (.t 1), none, 0, []⟩,
    ⟨some 37, .load none (.t 36), none, 0, []⟩,
    ⟨some 38, .mv (.t 6), none, 0, []⟩,
    ⟨some 39, .iad none 3 (.t 37) (.t 38), none, 0, []⟩,
    ⟨some 40, .fad 2 (.t 39), none, 0, []⟩,
    ⟨some 41, .load none (.t 40), none, 0, []⟩,
    ⟨some 42, .call (.f 29) [(.t 41), (.c (.int .i64 65))], none, 0, []⟩,
    ⟨some 7, .mv (.t 42), none, 0, []⟩])
  (.seq (.reg false [1, 3, 4, 6, 7, 8] [⟨some 43, .fad 1 (.t 1), none, 0, []⟩,
    ⟨some 44, .load none (.t 43), none, 0, []⟩,
    ⟨some 45, .mv (.t 6), none, 0, []⟩,
    ⟨some 46, .iad none 3 (.t 44) (.t 45), none, 0, []⟩,
    ⟨some 47, .fad 1 (.t 46), none, 0, []⟩,
    ⟨some 48, .load none (.t 47), none, 0, []⟩,
    ⟨some 8, .mv (.t 48), none, 0, []⟩])
  (.seq (.seq (.reg false [1, 3, 4, 6, 7, 8, 50] [⟨some 49, .mv (.t 7), none, 0, []⟩,
    ⟨some 50, .bin .lss .num (.t 49) (.c (.int .i64 64)), none, 0, []⟩])
  (.cond (.t 50) (.reg false [1, 3, 4, 6, 7, 8] [⟨some 51, .mv (.t 8), none, 0, []⟩,
    ⟨some 52, .mv (.t 7), none, 0, []⟩,
    ⟨some 53, .conv .u64 (.t 52), none, 0, []⟩,
    ⟨some 54, .bin .shl .num (.c (.int .u64 1)) (.t 53), none, 0, []⟩,
    ⟨some 55, .bin .rem .num (.t 51) (.t 54), none, 0, []⟩,
    ⟨some 8, .mv (.t 55), none, 0, []⟩])
  (.skip)))
  (.seq (.reg false [1, 3, 4, 6, 7, 8, 9] [⟨some 56, .mv (.t 4), none, 0, []⟩,
    ⟨some 57, .call (.f 8) [(.t 56)], none, 0, []⟩,
    ⟨some 9, .mv (.t 57), none, 0, []⟩])
  (.seq (.reg false [1, 3, 4, 6, 7, 9, 10] [⟨some 58, .mv (.t 4), none, 0, []⟩,
    ⟨some 59, .mv (.t 8), none, 0, []⟩,
    ⟨some 60, .mv (.t 7), none, 0, []⟩,
    ⟨some 61, .call (.f 5) [(.t 58), (.t 59), (.t 60)], none, 0, []⟩,
    ⟨some 10, .mv (.t 61), none, 0, []⟩])
  (.seq (.reg false [1, 3, 4, 6, 100] [⟨some 62, .mv (.t 10), none, 0, []⟩,
    ⟨some 63, .bin .eql .num (.t 62) (.c (.int .i64 0)), none, 0, []⟩,
    ⟨some 64, .mv (.t 63), none, 0, []⟩,
    ⟨some 65, .mv (.t 4), some (64, true), 0, []⟩,
    ⟨some 66, .call (.f 8) [(.t 65)], some (64, true), 0, []⟩,
    ⟨some 67, .mv (.t 9), some (64, true), 0, []⟩,
    ⟨some 68, .mv (.t 7), some (64, true), 0, []⟩,
    ⟨some 69, .bin .add .num (.t 67) (.t 68), some (64, true), 0, []⟩,
    ⟨some 70, .bin .neq .num (.t 66) (.t 69), some (64, true), 0, []⟩,
    ⟨some 71, .mv (.t 70), some (64, true), 0, []⟩,
    ⟨some 72, .mv (.t 4), some (71, false), 0, []⟩,
    ⟨some 73, .call (.f 8) [(.t 72)], some (71, false), 0, []⟩,
    ⟨some 74, .mv (.t 3), some (71, false), 0, []⟩,
    ⟨some 75, .bin .mul .num (.c (.int .i64 8)) (.t 74), some (71, false), 0, []⟩,
    ⟨some 76, .bin .gtr .num (.t 73) (.t 75), some (71, false), 0, []⟩,
    ⟨some 77, .pick (.t 71) (.c (.bool true)) (.t 76), some (64, true), 0, []⟩,
    ⟨some 78, .pick (.t 64) (.t 77) (.c (.bool false)), none, 0, []⟩,
    ⟨some 79, .mv (.t 78), none, 0, []⟩,
    ⟨some 80, .mv (.t 10), some (79, false), 0, []⟩,
    ⟨some 81, .bin .neq .num (.t 80) (.c (.int .i64 0)), some (79, false), 0, []⟩,
    ⟨some 82, .mv (.t 81), some (79, false), 0, []⟩,
    ⟨some 83, .mv (.t 10), some (82, true), 0, []⟩,
    ⟨some 84, .bin .neq .num (.t 83) (.c (.int .i64 13)), some (82, true), 0, []⟩,
    ⟨some 85, .mv (.t 84), some (82, true), 0, []⟩,
    ⟨some 86, .mv (.t 4), some (85, false), 0, []⟩,
    ⟨some 87, .call (.f 8) [(.t 86)], some (85, false), 0, []⟩,
    ⟨some 88, .mv (.t 9), some (85, false), 0, []⟩,
    ⟨some 89, .bin .neq .num (.t 87) (.t 88), some (85, false), 0, []⟩,
    ⟨some 90, .pick (.t 85) (.c (.bool true)) (.t 89), some (82, true), 0, []⟩,
    ⟨some 91, .mv (.t 90), some (82, true), 0, []⟩,
    ⟨some 92, .mv (.t 9), some (91, false), 0, []⟩,
    ⟨some 93, .mv (.t 7), some (91, false), 0, []⟩,
    ⟨some 94, .bin .add .num (.t 92) (.t 93), some (91, false), 0, []⟩,
    ⟨some 95, .mv (.t 3), some (91, false), 0, []⟩,
    ⟨some 96, .bin .mul .num (.c (.int .i64 8)) (.t 95), some (91, false), 0, []⟩,
    ⟨some 97, .bin .leq .num (.t 94) (.t 96), some (91, false), 0, []⟩,
    ⟨some 98, .pick (.t 91) (.c (.bool true)) (.t 97), some (82, true), 0, []⟩,
    ⟨some 99, .pick (.t 82) (.t 98) (.c (.bool false)), some (79, false), 0, []⟩,
    ⟨some 100, .pick (.t 79) (.c (.bool true)) (.t 99), none, 0, []⟩])
  (.cond (.t 100) (.seq (.reg false [2] [⟨some 2, .mv (.c (.bool false)), none, 0, []⟩])
  (.ret))
  (.skip)))))))))
  (.reg false [1, 3, 4, 6] [⟨some 34, .mv (.t 6), none, 0, []⟩,
    ⟨some 35, .bin .add .num (.t 34) (.c (.int .i64 1)), none, 0, []⟩,
    ⟨some 6, .mv (.t 35), none, 0, []⟩]))
def burinlaw1_BitsRoom_l0 : Cd := .seq (.seq (.reg false [3, 4, 105] [⟨some 101, .mv (.t 4), none, 0, []⟩,
    ⟨some 102, .call (.f 8) [(.t 101)], none, 0, []⟩,
    ⟨some 103, .mv (.t 3), none, 0, []⟩,
    ⟨some 104, .bin .mul .num (.c (.int .i64 8)) (.t 103), none, 0, []⟩,
    ⟨some 105, .bin .lss .num (.t 102) (.t 104), none, 0, []⟩])
  (.cond (.t 105) (.skip)
  (.exit 2)))
  (.block 3 (.seq (.reg false [3, 4, 108] [⟨some 106, .mv (.t 4), none, 0, []⟩,
    ⟨some 107, .call (.f 5) [(.t 106), (.c (.int .u64 1)), (.c (.int .i64 1))], none, 0, []⟩,
    ⟨some 108, .bin .neq .num (.t 107) (.c (.int .i64 0)), none, 0, []⟩])
  (.cond (.t 108) (.seq (.reg false [2] [⟨some 2, .mv (.c (.bool false)), none, 0, []⟩])
  (.ret))
  (.skip))))
/-- burin/burinlaw1.BitsRoom -/
def burinlaw1_BitsRoom : AFun := ⟨1, 132, true, [.t 2],
  .seq (.reg false [1] [⟨some 1, .box 2 (.t 0), none, 0, []⟩,
    ⟨some 2, .mv (.c (.bool false)), none, 0, []⟩])
  (.seq (.reg false [1, 3] [⟨some 11, .fad 0 (.t 1), none, 0, []⟩,
    ⟨some 12, .load none (.t 11), none, 0, []⟩,
    ⟨some 13, .call (.f 29) [(.t 12), (.c (.int .i64 40))], none, 0, []⟩,
    ⟨some 3, .mv (.t 13), none, 0, []⟩])
  (.seq (.reg false [1, 3, 4, 5] [⟨some 15, .mv (.t 3), none, 0, []⟩,
    ⟨some 16, .call (.f 4) [(.t 15)], none, 0, []⟩,
    ⟨some 14, .mv (.t 16), none, 0, []⟩,
    ⟨some 17, .ext 0 (.t 14), none, 0, []⟩,
    ⟨some 18, .ext 1 (.t 14), none, 0, []⟩,
    ⟨some 4, .mv (.t 17), none, 0, []⟩,
    ⟨some 5, .mv (.t 18), none, 0, []⟩])
  (.seq (.seq (.reg false [1, 3, 4, 24] [⟨some 19, .mv (.t 5), none, 0, []⟩,
    ⟨some 20, .bin .neq .num (.t 19) (.c (.int .i64 0)), none, 0, []⟩,
    ⟨some 21, .mv (.t 20), none, 0, []⟩,
    ⟨some 22, .mv (.t 4), some (21, false), 0, []⟩,
    ⟨some 23, .bin .eql .ptr (.t 22) (.c (.ptr none)), some (21, false), 0, []⟩,
    ⟨some 24, .pick (.t 21) (.c (.bool true)) (.t 23), none, 0, []⟩])
  (.cond (.t 24) (.seq (.reg false [2] [⟨some 2, .mv (.c (.bool false)), none, 0, []⟩])
  (.ret))
  (.skip)))
  (.seq (.seq (.reg false [1, 3, 4, 6] [⟨some 6, .mv (.c (.int .i64 0)), none, 0, []⟩])
  (.block 0 (.loop [1, 3, 4, 6] burinlaw1_BitsRoom_l1)))
  (.seq (.block 2 (.loop [3, 4] burinlaw1_BitsRoom_l0))
  (.seq (.reg false [2] [⟨some 109, .mv (.t 4), none, 0, []⟩,
    ⟨some 110, .call (.f 5) [(.t 109), (.c (.int .u64 0)), (.c (.int .i64 1))], none, 0, []⟩,
    ⟨some 111, .bin .eql .num (.t 110) (.c (.int .i64 13)), none, 0, []⟩,
    ⟨some 112, .mv (.t 111), none, 0, []⟩,
    ⟨some 113, .mv (.t 4), some (112, true), 0, []⟩,
    ⟨some 114, .call (.f 5) [(.t 113), (.c (.int .u64 0)), (.c (.int .i64 0))], some (112, true), 0, []⟩,
    ⟨some 115, .bin .eql .num (.t 114) (.c (.int .i64 0)), some (112, true), 0, []⟩,
    ⟨some 116, .pick (.t 112) (.t 115) (.c (.bool false)), none, 0, []⟩,
    ⟨some 117, .mv (.t 116), none, 0, []⟩,
    ⟨some 118, .mv (.t 4), some (117, true), 0, []⟩,
    ⟨some 119, .call (.f 6) [(.t 118), (.c (.int .u64 0))], some (117, true), 0, []⟩,
    ⟨some 120, .bin .eql .num (.t 119) (.c (.int .i64 13)), some (117, true), 0, []⟩,
    ⟨some 121, .pick (.t 117) (.t 120) (.c (.bool false)), none, 0, []⟩,
    ⟨some 122, .mv (.t 121), none, 0, []⟩,
    ⟨some 123, .mv (.t 4), some (122, true), 0, []⟩,
    ⟨some 124, .call (.f 9) [(.t 123)], some (122, true), 0, []⟩,
    ⟨some 125, .len none (.t 124), some (122, true), 0, []⟩,
    ⟨some 126, .mv (.t 3), some (122, true), 0, []⟩,
    ⟨some 127, .bin .eql .num (.t 125) (.t 126), some (122, true), 0, []⟩,
    ⟨some 128, .pick (.t 122) (.t 127) (.c (.bool false)), none, 0, []⟩,
    ⟨some 129, .mv (.t 128), none, 0, []⟩,
    ⟨some 130, .call (.f 32) [], some (129, true), 0, []⟩,
    ⟨some 131, .pick (.t 129) (.t 130) (.c (.bool false)), none, 0, []⟩,
    ⟨some 2, .mv (.t 131), none, 0, []⟩])
  (.ret)))))))⟩

def burinlaw1_BitsParts_l1 : Cd := .seq (.seq (.reg false [1, 3, 5, 7, 53] [⟨some 45, .mv (.t 7), none, 0, []⟩,
    ⟨some 46, .fad 1 (.t 1), none, 0, []⟩,
    ⟨some 47, .load none (.t 46), none, 0, []⟩,
    ⟨some 48, .len none (.t 47), none, 0, []⟩,
    ⟨some 49, .bin .lss .num (.t 45) (.t 48), none, 0, []⟩,
    ⟨some 50, .mv (.t 49), none, 0, []⟩,
    ⟨some 51, .mv (.t 7), some (50, true), 0, []⟩,
    ⟨some 52, .bin .lss .num (.t 51) (.c (.int .i64 300)), some (50, true), 0, []⟩,
    ⟨some 53, .pick (.t 50) (.t 52) (.c (.bool false)), none, 0, []⟩])
  (.cond (.t 53) (.skip)
  (.exit 0)))
  (.seq (.block 1 (.seq (.reg false [1, 3, 5, 7, 8] [⟨some 56, .fad 1 (.t 1), none, 0, []⟩,
    ⟨some 57, .load none (.t 56), none, 0, []⟩,
    ⟨some 58, .mv (.t 7), none, 0, []⟩,
    ⟨some 59, .iad none 3 (.t 57) (.t 58), none, 0, []⟩,
    ⟨some 60, .fad 2 (.t 59), none, 0, []⟩,
    ⟨some 61, .load none (.t 60), none, 0, []⟩,
    ⟨some 62, .call (.f 29) [(.t 61), (.c (.int .i64 65))], none, 0, []⟩,
    ⟨some 8, .mv (.t 62), none, 0, []⟩])
  (.seq (.reg false [1, 3, 5, 7, 8, 9] [⟨some 63, .fad 1 (.t 1), none, 0, []⟩,
    ⟨some 64, .load none (.t 63), none, 0, []⟩,
    ⟨some 65, .mv (.t 7), none, 0, []⟩,
    ⟨some 66, .iad none 3 (.t 64) (.t 65), none, 0, []⟩,
    ⟨some 67, .fad 1 (.t 66), none, 0, []⟩,
    ⟨some 68, .load none (.t 67), none, 0, []⟩,
    ⟨some 9, .mv (.t 68), none, 0, []⟩])
  (.seq (.seq (.reg false [1, 3, 5, 7, 8, 9, 70] [⟨some 69, .mv (.t 8), none, 0, []⟩,
    ⟨some 70, .bin .lss .num (.t 69) (.c (.int .i64 64)), none, 0, []⟩])
  (.cond (.t 70) (.reg false [1, 3, 5, 7, 8, 9] [⟨some 71, .mv (.t 9), none, 0, []⟩,
    ⟨some 72, .mv (.t 8), none, 0, []⟩,
    ⟨some 73, .conv .u64 (.t 72), none, 0, []⟩,
    ⟨some 74, .bin .shl .num (.c (.int .u64 1)) (.t 73), none, 0, []⟩,
    ⟨some 75, .bin .rem .num (.t 71) (.t 74), none, 0, []⟩,
    ⟨some 9, .mv (.t 75), none, 0, []⟩])
  (.skip)))
  (.seq (.reg false [1, 3, 5, 7, 8, 9, 10] [⟨some 76, .mv (.t 7), none, 0, []⟩,
    ⟨some 77, .mv (.t 8), none, 0, []⟩,
    ⟨some 78, .bin .add .num (.t 77) (.c (.int .i64 1)), none, 0, []⟩,
    ⟨some 79, .bin .rem .num (.t 76) (.t 78), none, 0, []⟩,
    ⟨some 10, .mv (.t 79), none, 0, []⟩])
  (.seq (.reg false [1, 3, 5, 7, 8, 9, 10, 11] [⟨some 80, .mv (.t 9), none, 0, []⟩,
    ⟨some 11, .mv (.t 80), none, 0, []⟩])
  (.seq (.seq (.reg false [1, 3, 5, 7, 8, 9, 10, 11, 82] [⟨some 81, .mv (.t 10), none, 0, []⟩,
    ⟨some 82, .bin .lss .num (.t 81) (.c (.int .i64 64)), none, 0, []⟩])
  (.cond (.t 82) (.reg false [1, 3, 5, 7, 8, 9, 10, 11] [⟨some 83, .mv (.t 9), none, 0, []⟩,
    ⟨some 84, .mv (.t 10), none, 0, []⟩,
    ⟨some 85, .conv .u64 (.t 84), none, 0, []⟩,
    ⟨some 86, .bin .shl .num (.c (.int .u64 1)) (.t 85), none, 0, []⟩,
    ⟨some 87, .bin .rem .num (.t 83) (.t 86), none, 0, []⟩,
    ⟨some 11, .mv (.t 87), none, 0, []⟩])
  (.skip)))
  (.seq (.reg false [1, 3, 5, 7, 115] [⟨some 88, .mv (.t 3), none, 0, []⟩,
    ⟨some 89, .mv (.t 9), none, 0, []⟩,
    ⟨some 90, .mv (.t 8), none, 0, []⟩,
    ⟨some 91, .call (.f 5) [(.t 88), (.t 89), (.t 90)], none, 0, []⟩,
    ⟨some 92, .bin .neq .num (.t 91) (.c (.int .i64 0)), none, 0, []⟩,
    ⟨some 93, .mv (.t 92), none, 0, []⟩,
    ⟨some 94, .mv (.t 10), some (93, false), 0, []⟩,
    ⟨some 95, .bin .lss .num (.t 94) (.c (.int .i64 64)), some (93, false), 0, []⟩,
    ⟨some 96, .mv (.t 95), some (93, false), 0, []⟩,
    ⟨some 97, .mv (.t 5), some (96, true), 0, []⟩,
    ⟨some 98, .mv (.t 9), some (96, true), 0, []⟩,
    ⟨some 99, .mv (.t 10), some (96, true), 0, []⟩,
    ⟨some 100, .conv .u64 (.t 99), some (96, true), 0, []⟩,
    ⟨some 101, .bin .shr .num (.t 98) (.t 100), some (96, true), 0, []⟩,
    ⟨some 102, .mv (.t 8), some (96, true), 0, []⟩,
    ⟨some 103, .mv (.t 10), some (96, true), 0, []⟩,
    ⟨some 104, .bin .sub .num (.t 102) (.t 103), some (96, true), 0, []⟩,
    ⟨some 105, .call (.f 5) [(.t 97), (.t 101), (.t 104)], some (96, true), 0, []⟩,
    ⟨some 106, .bin .neq .num (.t 105) (.c (.int .i64 0)), some (96, true), 0, []⟩,
    ⟨some 107, .pick (.t 96) (.t 106) (.c (.bool false)), some (93, false), 0, []⟩,
    ⟨some 108, .pick (.t 93) (.c (.bool true)) (.t 107), none, 0, []⟩,
    ⟨some 109, .mv (.t 108), none, 0, []⟩,
    ⟨some 110, .mv (.t 5), some (109, false), 0, []⟩,
    ⟨some 111, .mv (.t 11), some (109, false), 0, []⟩,
    ⟨some 112, .mv (.t 10), some (109, false), 0, []⟩,
    ⟨some 113, .call (.f 5) [(.t 110), (.t 111), (.t 112)], some (109, false), 0, []⟩,
    ⟨some 114, .bin .neq .num (.t 113) (.c (.int .i64 0)), some (109, false), 0, []⟩,
    ⟨some 115, .pick (.t 109) (.c (.bool true)) (.t 114), none, 0, []⟩])
  (.cond (.t 115) (.seq (.reg false [2] [⟨some 2, .mv (.c (.bool false)), none, 0, []⟩])
  (.ret))
  (.skip))))))))))
  (.reg false [1, 3, 5, 7] [⟨some 54, .mv (.t 7), none, 0, []⟩,
    ⟨some 55, .bin .add .num (.t 54) (.c (.int .i64 1)), none, 0, []⟩,
    ⟨some 7, .mv (.t 55), none, 0, []⟩]))
def burinlaw1_BitsParts_l0 : Cd := .seq (.seq (.reg false [1, 12, 13, 14, 149] [⟨some 141, .mv (.t 14), none, 0, []⟩,
    ⟨some 142, .fad 1 (.t 1), none, 0, []⟩,
    ⟨some 143, .load none (.t 142), none, 0, []⟩,
    ⟨some 144, .len none (.t 143), none, 0, []⟩,
    ⟨some 145, .bin .lss .num (.t 141) (.t 144), none, 0, []⟩,
    ⟨some 146, .mv (.t 145), none, 0, []⟩,
    ⟨some 147, .mv (.t 14), some (146, true), 0, []⟩,
    ⟨some 148, .bin .lss .num (.t 147) (.c (.int .i64 300)), some (146, true), 0, []⟩,
    ⟨some 149, .pick (.t 146) (.t 148) (.c (.bool false)), none, 0, []⟩])
  (.cond (.t 149) (.skip)
  (.exit 2)))
  (.seq (.block 3 (.seq (.reg false [1, 12, 13, 14, 15] [⟨some 152, .fad 1 (.t 1), none, 0, []⟩,
    ⟨some 153, .load none (.t 152), none, 0, []⟩,
    ⟨some 154, .mv (.t 14), none, 0, []⟩,
    ⟨some 155, .iad none 3 (.t 153) (.t 154), none, 0, []⟩,
    ⟨some 156, .fad 2 (.t 155), none, 0, []⟩,
    ⟨some 157, .load none (.t 156), none, 0, []⟩,
    ⟨some 158, .call (.f 29) [(.t 157), (.c (.int .i64 65))], none, 0, []⟩,
    ⟨some 15, .mv (.t 158), none, 0, []⟩])
  (.seq (.reg false [1, 12, 13, 14, 15, 16] [⟨some 159, .mv (.t 14), none, 0, []⟩,
    ⟨some 160, .mv (.t 15), none, 0, []⟩,
    ⟨some 161, .bin .add .num (.t 160) (.c (.int .i64 1)), none, 0, []⟩,
    ⟨some 162, .bin .rem .num (.t 159) (.t 161), none, 0, []⟩,
    ⟨some 16, .mv (.t 162), none, 0, []⟩])
  (.seq (.reg false [1, 12, 13, 14, 15, 16, 17, 18] [⟨some 164, .mv (.t 12), none, 0, []⟩,
    ⟨some 165, .mv (.t 15), none, 0, []⟩,
    ⟨some 166, .call (.f 12) [(.t 164), (.t 165)], none, 0, []⟩,
    ⟨some 163, .mv (.t 166), none, 0, []⟩,
    ⟨some 167, .ext 0 (.t 163), none, 0, []⟩,
    ⟨some 168, .ext 1 (.t 163), none, 0, []⟩,
    ⟨some 17, .mv (.t 167), none, 0, []⟩,
    ⟨some 18, .mv (.t 168), none, 0, []⟩])
  (.seq (.reg false [1, 12, 13, 14, 16, 17, 18, 19, 20] [⟨some 170, .mv (.t 13), none, 0, []⟩,
    ⟨some 171, .mv (.t 15), none, 0, []⟩,
    ⟨some 172, .mv (.t 16), none, 0, []⟩,
    ⟨some 173, .bin .sub .num (.t 171) (.t 172), none, 0, []⟩,
    ⟨some 174, .call (.f 12) [(.t 170), (.t 173)], none, 0, []⟩,
    ⟨some 169, .mv (.t 174), none, 0, []⟩,
    ⟨some 175, .ext 0 (.t 169), none, 0, []⟩,
    ⟨some 176, .ext 1 (.t 169), none, 0, []⟩,
    ⟨some 19, .mv (.t 175), none, 0, []⟩,
    ⟨some 20, .mv (.t 176), none, 0, []⟩])
  (.seq (.reg false [1, 12, 13, 14, 16, 17, 18, 19, 20, 21, 22] [⟨some 178, .mv (.t 13), none, 0, []⟩,
    ⟨some 179, .mv (.t 16), none, 0, []⟩,
    ⟨some 180, .call (.f 12) [(.t 178), (.t 179)], none, 0, []⟩,
    ⟨some 177, .mv (.t 180), none, 0, []⟩,
    ⟨some 181, .ext 0 (.t 177), none, 0, []⟩,
    ⟨some 182, .ext 1 (.t 177), none, 0, []⟩,
    ⟨some 21, .mv (.t 181), none, 0, []⟩,
    ⟨some 22, .mv (.t 182), none, 0, []⟩])
  (.seq (.reg false [1, 12, 13, 14, 215] [⟨some 183, .mv (.t 18), none, 0, []⟩,
    ⟨some 184, .bin .neq .num (.t 183) (.c (.int .i64 0)), none, 0, []⟩,
    ⟨some 185, .mv (.t 184), none, 0, []⟩,
    ⟨some 186, .mv (.t 20), some (185, false), 0, []⟩,
    ⟨some 187, .bin .neq .num (.t 186) (.c (.int .i64 0)), some (185, false), 0, []⟩,
    ⟨some 188, .pick (.t 185) (.c (.bool true)) (.t 187), none, 0, []⟩,
    ⟨some 189, .mv (.t 188), none, 0, []⟩,
    ⟨some 190, .mv (.t 22), some (189, false), 0, []⟩,
    ⟨some 191, .bin .neq .num (.t 190) (.c (.int .i64 0)), some (189, false), 0, []⟩,
    ⟨some 192, .pick (.t 189) (.c (.bool true)) (.t 191), none, 0, []⟩,
    ⟨some 193, .mv (.t 192), none, 0, []⟩,
    ⟨some 194, .mv (.t 16), some (193, false), 0, []⟩,
    ⟨some 195, .bin .lss .num (.t 194) (.c (.int .i64 64)), some (193, false), 0, []⟩,
    ⟨some 196, .mv (.t 195), some (193, false), 0, []⟩,
    ⟨some 197, .mv (.t 17), some (196, true), 0, []⟩,
    ⟨some 198, .mv (.t 19), some (196, true), 0, []⟩,
    ⟨some 199, .mv (.t 16), some (196, true), 0, []⟩,
    ⟨some 200, .conv .u64 (.t 199), some (196, true), 0, []⟩,
    ⟨some 201, .bin .shl .num (.t 198) (.t 200), some (196, true), 0, []⟩,
    ⟨some 202, .mv (.t 21), some (196, true), 0, []⟩,
    ⟨some 203, .bin .add .num (.t 201) (.t 202), some (196, true), 0, []⟩,
    ⟨some 204, .bin .neq .num (.t 197) (.t 203), some (196, true), 0, []⟩,
    ⟨some 205, .pick (.t 196) (.t 204) (.c (.bool false)), some (193, false), 0, []⟩,
    ⟨some 206, .pick (.t 193) (.c (.bool true)) (.t 205), none, 0, []⟩,
    ⟨some 207, .mv (.t 206), none, 0, []⟩,
    ⟨some 208, .mv (.t 16), some (207, false), 0, []⟩,
    ⟨some 209, .bin .eql .num (.t 208) (.c (.int .i64 64)), some (207, false), 0, []⟩,
    ⟨some 210, .mv (.t 209), some (207, false), 0, []⟩,
    ⟨some 211, .mv (.t 17), some (210, true), 0, []⟩,
    ⟨some 212, .mv (.t 21), some (210, true), 0, []⟩,
    ⟨some 213, .bin .neq .num (.t 211) (.t 212), some (210, true), 0, []⟩,
    ⟨some 214, .pick (.t 210) (.t 213) (.c (.bool false)), some (207, false), 0, []⟩,
    ⟨some 215, .pick (.t 207) (.c (.bool true)) (.t 214), none, 0, []⟩])
  (.cond (.t 215) (.seq (.reg false [2] [⟨some 2, .mv (.c (.bool false)), none, 0, []⟩])
  (.ret))
  (.skip)))))))))
  (.reg false [1, 12, 13, 14] [⟨some 150, .mv (.t 14), none, 0, []⟩,
    ⟨some 151, .bin .add .num (.t 150) (.c (.int .i64 1)), none, 0, []⟩,
    ⟨some 14, .mv (.t 151), none, 0, []⟩]))
/-- burin/burinlaw1.BitsParts -/
def burinlaw1_BitsParts : AFun := ⟨1, 224, true, [.t 2],
  .seq (.reg false [1] [⟨some 1, .box 2 (.t 0), none, 0, []⟩,
    ⟨some 2, .mv (.c (.bool false)), none, 0, []⟩])
  (.seq (.reg false [1, 3, 4] [⟨some 24, .call (.f 4) [(.c (.int .i64 67108864))], none, 0, []⟩,
    ⟨some 23, .mv (.t 24), none, 0, []⟩,
    ⟨some 25, .ext 0 (.t 23), none, 0, []⟩,
    ⟨some 26, .ext 1 (.t 23), none, 0, []⟩,
    ⟨some 3, .mv (.t 25), none, 0, []⟩,
    ⟨some 4, .mv (.t 26), none, 0, []⟩])
  (.seq (.reg false [1, 3, 4, 5, 6] [⟨some 28, .call (.f 4) [(.c (.int .i64 67108864))], none, 0, []⟩,
    ⟨some 27, .mv (.t 28), none, 0, []⟩,
    ⟨some 29, .ext 0 (.t 27), none, 0, []⟩,
    ⟨some 30, .ext 1 (.t 27), none, 0, []⟩,
    ⟨some 5, .mv (.t 29), none, 0, []⟩,
    ⟨some 6, .mv (.t 30), none, 0, []⟩])
  (.seq (.seq (.reg false [1, 3, 5, 44] [⟨some 31, .mv (.t 4), none, 0, []⟩,
    ⟨some 32, .bin .neq .num (.t 31) (.c (.int .i64 0)), none, 0, []⟩,
    ⟨some 33, .mv (.t 32), none, 0, []⟩,
    ⟨some 34, .mv (.t 6), some (33, false), 0, []⟩,
    ⟨some 35, .bin .neq .num (.t 34) (.c (.int .i64 0)), some (33, false), 0, []⟩,
    ⟨some 36, .pick (.t 33) (.c (.bool true)) (.t 35), none, 0, []⟩,
    ⟨some 37, .mv (.t 36), none, 0, []⟩,
    ⟨some 38, .mv (.t 3), some (37, false), 0, []⟩,
    ⟨some 39, .bin .eql .ptr (.t 38) (.c (.ptr none)), some (37, false), 0, []⟩,
    ⟨some 40, .pick (.t 37) (.c (.bool true)) (.t 39), none, 0, []⟩,
    ⟨some 41, .mv (.t 40), none, 0, []⟩,
    ⟨some 42, .mv (.t 5), some (41, false), 0, []⟩,
    ⟨some 43, .bin .eql .ptr (.t 42) (.c (.ptr none)), some (41, false), 0, []⟩,
    ⟨some 44, .pick (.t 41) (.c (.bool true)) (.t 43), none, 0, []⟩])
  (.cond (.t 44) (.seq (.reg false [2] [⟨some 2, .mv (.c (.bool false)), none, 0, []⟩])
  (.ret))
  (.skip)))
  (.seq (.seq (.reg false [1, 3, 5, 7] [⟨some 7, .mv (.c (.int .i64 0)), none, 0, []⟩])
  (.block 0 (.loop [1, 3, 5, 7] burinlaw1_BitsParts_l1)))
  (.seq (.seq (.reg false [1, 3, 128] [⟨some 116, .mv (.t 3), none, 0, []⟩,
    ⟨some 117, .call (.f 9) [(.t 116)], none, 0, []⟩,
    ⟨some 118, .mv (.t 5), none, 0, []⟩,
    ⟨some 119, .call (.f 9) [(.t 118)], none, 0, []⟩,
    ⟨some 120, .call (.f 26) [(.t 117), (.t 119)], none, 0, []⟩,
    ⟨some 121, .un .not (.t 120), none, 0, []⟩,
    ⟨some 122, .mv (.t 121), none, 0, []⟩,
    ⟨some 123, .mv (.t 3), some (122, false), 0, []⟩,
    ⟨some 124, .call (.f 8) [(.t 123)], some (122, false), 0, []⟩,
    ⟨some 125, .mv (.t 5), some (122, false), 0, []⟩,
    ⟨some 126, .call (.f 8) [(.t 125)], some (122, false), 0, []⟩,
    ⟨some 127, .bin .neq .num (.t 124) (.t 126), some (122, false), 0, []⟩,
    ⟨some 128, .pick (.t 122) (.c (.bool true)) (.t 127), none, 0, []⟩])
  (.cond (.t 128) (.seq (.reg false [2] [⟨some 2, .mv (.c (.bool false)), none, 0, []⟩])
  (.ret))
  (.skip)))
  (.seq (.reg false [1, 3, 12] [⟨some 129, .mv (.t 3), none, 0, []⟩,
    ⟨some 130, .call (.f 9) [(.t 129)], none, 0, []⟩,
    ⟨some 131, .call (.f 10) [(.t 130)], none, 0, []⟩,
    ⟨some 12, .mv (.t 131), none, 0, []⟩])
  (.seq (.reg false [1, 12, 13] [⟨some 132, .mv (.t 3), none, 0, []⟩,
    ⟨some 133, .call (.f 9) [(.t 132)], none, 0, []⟩,
    ⟨some 134, .call (.f 10) [(.t 133)], none, 0, []⟩,
    ⟨some 13, .mv (.t 134), none, 0, []⟩])
  (.seq (.seq (.reg false [1, 12, 13, 140] [⟨some 135, .mv (.t 12), none, 0, []⟩,
    ⟨some 136, .bin .eql .ptr (.t 135) (.c (.ptr none)), none, 0, []⟩,
    ⟨some 137, .mv (.t 136), none, 0, []⟩,
    ⟨some 138, .mv (.t 13), some (137, false), 0, []⟩,
    ⟨some 139, .bin .eql .ptr (.t 138) (.c (.ptr none)), some (137, false), 0, []⟩,
    ⟨some 140, .pick (.t 137) (.c (.bool true)) (.t 139), none, 0, []⟩])
  (.cond (.t 140) (.seq (.reg false [2] [⟨some 2, .mv (.c (.bool false)), none, 0, []⟩])
  (.ret))
  (.skip)))
  (.seq (.seq (.reg false [1, 12, 13, 14] [⟨some 14, .mv (.c (.int .i64 0)), none, 0, []⟩])
  (.block 2 (.loop [1, 12, 13, 14] burinlaw1_BitsParts_l0)))
  (.seq (.reg false [2] [⟨some 216, .mv (.t 12), none, 0, []⟩,
    ⟨some 217, .call (.f 11) [(.t 216)], none, 0, []⟩,
    ⟨some 218, .mv (.t 13), none, 0, []⟩,
    ⟨some 219, .call (.f 11) [(.t 218)], none, 0, []⟩,
    ⟨some 220, .bin .eql .num (.t 217) (.t 219), none, 0, []⟩,
    ⟨some 221, .mv (.t 220), none, 0, []⟩,
    ⟨some 222, .call (.f 32) [], some (221, true), 0, []⟩,
    ⟨some 223, .pick (.t 221) (.t 222) (.c (.bool false)), none, 0, []⟩,
    ⟨some 2, .mv (.t 223), none, 0, []⟩])
  (.ret)))))))))))⟩

def burinlaw1_BitsReads_l0 : Cd := .seq (.seq (.reg false [1, 4, 5, 6, 38] [⟨some 30, .mv (.t 6), none, 0, []⟩,
    ⟨some 31, .fad 1 (.t 1), none, 0, []⟩,
    ⟨some 32, .load none (.t 31), none, 0, []⟩,
    ⟨some 33, .len none (.t 32), none, 0, []⟩,
    ⟨some 34, .bin .lss .num (.t 30) (.t 33), none, 0, []⟩,
    ⟨some 35, .mv (.t 34), none, 0, []⟩,
    ⟨some 36, .mv (.t 6), some (35, true), 0, []⟩,
    ⟨some 37, .bin .lss .num (.t 36) (.c (.int .i64 300)), some (35, true), 0, []⟩,
    ⟨some 38, .pick (.t 35) (.t 37) (.c (.bool false)), none, 0, []⟩])
  (.cond (.t 38) (.skip)
  (.exit 0)))
  (.seq (.block 1 (.seq (.reg false [1, 4, 5, 6, 7] [⟨some 41, .fad 1 (.t 1), none, 0, []⟩,
    ⟨some 42, .load none (.t 41), none, 0, []⟩,
    ⟨some 43, .mv (.t 6), none, 0, []⟩,
    ⟨some 44, .iad none 3 (.t 42) (.t 43), none, 0, []⟩,
    ⟨some 45, .load (some 3) (.t 44), none, 0, []⟩,
    ⟨some 7, .alloc [.int .i64 0, .int .u64 0, .int .i64 0], none, 0, []⟩,
    ⟨none, .store 3 (.t 7) (.t 45), none, 0, []⟩])
  (.seq (.reg false [1, 4, 5, 6, 7, 8, 9] [⟨some 8, .mv (.c (.int .u64 0)), none, 0, []⟩,
    ⟨some 9, .mv (.c (.int .u64 0)), none, 0, []⟩])
  (.seq (.reg false [1, 4, 5, 6, 7, 8, 9] [⟨some 10, .mv (.c (.int .i64 0)), none, 0, []⟩,
    ⟨some 11, .mv (.c (.int .i64 0)), none, 0, []⟩])
  (.seq (.seq (.reg false [1, 4, 5, 6, 7, 8, 9, 47] [⟨some 46, .fad 0 (.t 7), none, 0, []⟩,
    ⟨some 47, .load none (.t 46), none, 0, []⟩])
  (.block 2 (.seq (.reg false [1, 4, 5, 6, 7, 8, 9, 47, 52] [⟨some 53, .bin .eql .num (.t 47) (.c (.int .i64 0)), none, 0, []⟩,
    ⟨some 52, .mv (.t 53), none, 0, []⟩])
  (.cond (.t 52) (.seq (.reg false [1, 4, 5, 6, 7, 8, 10] [⟨some 55, .mv (.t 4), none, 0, []⟩,
    ⟨some 56, .fad 2 (.t 7), none, 0, []⟩,
    ⟨some 57, .load none (.t 56), none, 0, []⟩,
    ⟨some 58, .call (.f 12) [(.t 55), (.t 57)], none, 0, []⟩,
    ⟨some 54, .mv (.t 58), none, 0, []⟩,
    ⟨some 59, .ext 0 (.t 54), none, 0, []⟩,
    ⟨some 60, .ext 1 (.t 54), none, 0, []⟩,
    ⟨some 8, .mv (.t 59), none, 0, []⟩,
    ⟨some 10, .mv (.t 60), none, 0, []⟩])
  (.reg false [1, 4, 5, 6, 8, 9, 10, 11] [⟨some 62, .mv (.t 5), none, 0, []⟩,
    ⟨some 63, .fad 2 (.t 7), none, 0, []⟩,
    ⟨some 64, .load none (.t 63), none, 0, []⟩,
    ⟨some 65, .call (.f 23) [(.t 62), (.t 64)], none, 0, []⟩,
    ⟨some 61, .mv (.t 65), none, 0, []⟩,
    ⟨some 66, .ext 0 (.t 61), none, 0, []⟩,
    ⟨some 67, .ext 1 (.t 61), none, 0, []⟩,
    ⟨some 9, .mv (.t 66), none, 0, []⟩,
    ⟨some 11, .mv (.t 67), none, 0, []⟩]))
  (.seq (.reg false [1, 4, 5, 6, 8, 9, 68] [⟨some 69, .bin .eql .num (.t 47) (.c (.int .i64 1)), none, 0, []⟩,
    ⟨some 68, .mv (.t 69), none, 0, []⟩])
  (.cond (.t 68) (.seq (.reg false [1, 4, 5, 6, 8, 10] [⟨some 71, .mv (.t 4), none, 0, []⟩,
    ⟨some 72, .call (.f 15) [(.t 71)], none, 0, []⟩,
    ⟨some 70, .mv (.t 72), none, 0, []⟩,
    ⟨some 73, .ext 0 (.t 70), none, 0, []⟩,
    ⟨some 74, .ext 1 (.t 70), none, 0, []⟩,
    ⟨some 8, .mv (.t 73), none, 0, []⟩,
    ⟨some 10, .mv (.t 74), none, 0, []⟩])
  (.reg false [1, 4, 5, 6, 8, 9, 10, 11] [⟨some 76, .mv (.t 5), none, 0, []⟩,
    ⟨some 77, .call (.f 24) [(.t 76)], none, 0, []⟩,
    ⟨some 75, .mv (.t 77), none, 0, []⟩,
    ⟨some 78, .ext 0 (.t 75), none, 0, []⟩,
    ⟨some 79, .ext 1 (.t 75), none, 0, []⟩,
    ⟨some 9, .mv (.t 78), none, 0, []⟩,
    ⟨some 11, .mv (.t 79), none, 0, []⟩]))
  (.seq (.reg false [1, 4, 5, 6, 8, 9, 10] [⟨some 48, .mv (.t 4), none, 0, []⟩,
    ⟨some 49, .call (.f 16) [(.t 48)], none, 0, []⟩,
    ⟨some 10, .mv (.t 49), none, 0, []⟩])
  (.reg false [1, 4, 5, 6, 8, 9, 10, 11] [⟨some 50, .mv (.t 5), none, 0, []⟩,
    ⟨some 51, .call (.f 25) [(.t 50)], none, 0, []⟩,
    ⟨some 11, .mv (.t 51), none, 0, []⟩]))))))))
  (.seq (.reg false [1, 4, 5, 6, 94] [⟨some 80, .mv (.t 8), none, 0, []⟩,
    ⟨some 81, .mv (.t 9), none, 0, []⟩,
    ⟨some 82, .bin .neq .num (.t 80) (.t 81), none, 0, []⟩,
    ⟨some 83, .mv (.t 82), none, 0, []⟩,
    ⟨some 84, .mv (.t 10), some (83, false), 0, []⟩,
    ⟨some 85, .mv (.t 11), some (83, false), 0, []⟩,
    ⟨some 86, .bin .neq .num (.t 84) (.t 85), some (83, false), 0, []⟩,
    ⟨some 87, .pick (.t 83) (.c (.bool true)) (.t 86), none, 0, []⟩,
    ⟨some 88, .mv (.t 87), none, 0, []⟩,
    ⟨some 89, .mv (.t 4), some (88, false), 0, []⟩,
    ⟨some 90, .call (.f 11) [(.t 89)], some (88, false), 0, []⟩,
    ⟨some 91, .mv (.t 5), some (88, false), 0, []⟩,
    ⟨some 92, .call (.f 22) [(.t 91)], some (88, false), 0, []⟩,
    ⟨some 93, .bin .neq .num (.t 90) (.t 92), some (88, false), 0, []⟩,
    ⟨some 94, .pick (.t 88) (.c (.bool true)) (.t 93), none, 0, []⟩])
  (.cond (.t 94) (.seq (.reg false [2] [⟨some 2, .mv (.c (.bool false)), none, 0, []⟩])
  (.ret))
  (.skip))))))))
  (.reg false [1, 4, 5, 6] [⟨some 39, .mv (.t 6), none, 0, []⟩,
    ⟨some 40, .bin .add .num (.t 39) (.c (.int .i64 1)), none, 0, []⟩,
    ⟨some 6, .mv (.t 40), none, 0, []⟩]))
/-- burin/burinlaw1.BitsReads -/
def burinlaw1_BitsReads : AFun := ⟨1, 96, true, [.t 2],
  .seq (.reg false [1] [⟨some 1, .box 2 (.t 0), none, 0, []⟩,
    ⟨some 2, .mv (.c (.bool false)), none, 0, []⟩])
  (.seq (.reg false [1, 3] [⟨some 12, .fad 0 (.t 1), none, 0, []⟩,
    ⟨some 13, .load none (.t 12), none, 0, []⟩,
    ⟨some 14, .call (.f 30) [(.t 13)], none, 0, []⟩,
    ⟨some 3, .mv (.t 14), none, 0, []⟩])
  (.seq (.reg false [1, 3, 4] [⟨some 15, .mv (.t 3), none, 0, []⟩,
    ⟨some 16, .call (.f 10) [(.t 15)], none, 0, []⟩,
    ⟨some 4, .mv (.t 16), none, 0, []⟩])
  (.seq (.seq (.reg false [1, 4, 25] [⟨some 17, .mv (.t 4), none, 0, []⟩,
    ⟨some 18, .bin .eql .ptr (.t 17) (.c (.ptr none)), none, 0, []⟩,
    ⟨some 19, .mv (.t 18), none, 0, []⟩,
    ⟨some 20, .mv (.t 3), some (19, false), 0, []⟩,
    ⟨some 21, .fad 0 (.t 1), some (19, false), 0, []⟩,
    ⟨some 22, .load none (.t 21), some (19, false), 0, []⟩,
    ⟨some 23, .call (.f 31) [(.t 20), (.t 22)], some (19, false), 0, []⟩,
    ⟨some 24, .un .not (.t 23), some (19, false), 0, []⟩,
    ⟨some 25, .pick (.t 19) (.c (.bool true)) (.t 24), none, 0, []⟩])
  (.cond (.t 25) (.seq (.reg false [2] [⟨some 2, .mv (.c (.bool false)), none, 0, []⟩])
  (.ret))
  (.skip)))
  (.seq (.reg false [1, 4, 5] [⟨some 26, .fad 0 (.t 1), none, 0, []⟩,
    ⟨some 27, .load none (.t 26), none, 0, []⟩,
    ⟨some 28, .build [.sl none 0 0 0, .int .i64 0] [(0, 1, (.t 27))], none, 0, []⟩,
    ⟨some 29, .box 2 (.t 28), none, 0, []⟩,
    ⟨some 5, .mv (.t 29), none, 0, []⟩])
  (.seq (.seq (.reg false [1, 4, 5, 6] [⟨some 6, .mv (.c (.int .i64 0)), none, 0, []⟩])
  (.block 0 (.loop [1, 4, 5, 6] burinlaw1_BitsReads_l0)))
  (.seq (.reg false [2] [⟨some 95, .call (.f 32) [], none, 0, []⟩,
    ⟨some 2, .mv (.t 95), none, 0, []⟩])
  (.ret)))))))⟩

def burinlaw1_BitsBack_l1 : Cd := .seq (.seq (.reg false [1, 3, 5, 6, 34] [⟨some 26, .mv (.t 6), none, 0, []⟩,
    ⟨some 27, .fad 1 (.t 1), none, 0, []⟩,
    ⟨some 28, .load none (.t 27), none, 0, []⟩,
    ⟨some 29, .len none (.t 28), none, 0, []⟩,
    ⟨some 30, .bin .lss .num (.t 26) (.t 29), none, 0, []⟩,
    ⟨some 31, .mv (.t 30), none, 0, []⟩,
    ⟨some 32, .mv (.t 6), some (31, true), 0, []⟩,
    ⟨some 33, .bin .lss .num (.t 32) (.c (.int .i64 300)), some (31, true), 0, []⟩,
    ⟨some 34, .pick (.t 31) (.t 33) (.c (.bool false)), none, 0, []⟩])
  (.cond (.t 34) (.skip)
  (.exit 0)))
  (.seq (.block 1 (.seq (.reg false [1, 3, 5, 6, 7] [⟨some 37, .fad 1 (.t 1), none, 0, []⟩,
    ⟨some 38, .load none (.t 37), none, 0, []⟩,
    ⟨some 39, .mv (.t 6), none, 0, []⟩,
    ⟨some 40, .iad none 3 (.t 38) (.t 39), none, 0, []⟩,
    ⟨some 41, .load (some 3) (.t 40), none, 0, []⟩,
    ⟨some 7, .alloc [.int .i64 0, .int .u64 0, .int .i64 0], none, 0, []⟩,
    ⟨none, .store 3 (.t 7) (.t 41), none, 0, []⟩])
  (.seq (.reg false [1, 3, 5, 6, 7, 8] [⟨some 8, .mv (.c (.int .i64 0)), none, 0, []⟩])
  (.seq (.seq (.reg false [1, 3, 5, 6, 7, 8, 44] [⟨some 42, .fad 0 (.t 7), none, 0, []⟩,
    ⟨some 43, .load none (.t 42), none, 0, []⟩,
    ⟨some 44, .bin .eql .num (.t 43) (.c (.int .i64 0)), none, 0, []⟩])
  (.cond (.t 44) (.reg false [1, 3, 5, 6, 7, 8] [⟨some 45, .mv (.t 3), none, 0, []⟩,
    ⟨some 46, .fad 1 (.t 7), none, 0, []⟩,
    ⟨some 47, .load none (.t 46), none, 0, []⟩,
    ⟨some 48, .fad 2 (.t 7), none, 0, []⟩,
    ⟨some 49, .load none (.t 48), none, 0, []⟩,
    ⟨some 50, .call (.f 5) [(.t 45), (.t 47), (.t 49)], none, 0, []⟩,
    ⟨some 8, .mv (.t 50), none, 0, []⟩])
  (.seq (.reg false [1, 3, 5, 6, 7, 8, 53] [⟨some 51, .fad 0 (.t 7), none, 0, []⟩,
    ⟨some 52, .load none (.t 51), none, 0, []⟩,
    ⟨some 53, .bin .eql .num (.t 52) (.c (.int .i64 1)), none, 0, []⟩])
  (.cond (.t 53) (.reg false [1, 3, 5, 6, 7, 8] [⟨some 54, .mv (.t 3), none, 0, []⟩,
    ⟨some 55, .fad 1 (.t 7), none, 0, []⟩,
    ⟨some 56, .load none (.t 55), none, 0, []⟩,
    ⟨some 57, .call (.f 6) [(.t 54), (.t 56)], none, 0, []⟩,
    ⟨some 8, .mv (.t 57), none, 0, []⟩])
  (.reg false [1, 3, 5, 6, 7, 8] [⟨some 58, .mv (.t 3), none, 0, []⟩,
    ⟨some 59, .call (.f 7) [(.t 58)], none, 0, []⟩])))))
  (.seq (.reg false [1, 3, 5, 6, 7, 61] [⟨some 60, .mv (.t 8), none, 0, []⟩,
    ⟨some 61, .bin .eql .num (.t 60) (.c (.int .i64 0)), none, 0, []⟩])
  (.cond (.t 61) (.reg false [1, 3, 5, 6] [⟨some 62, .mv (.t 5), none, 0, []⟩,
    ⟨some 63, .load (some 3) (.t 7), none, 0, []⟩,
    ⟨some 64, .bslice 3 [.int .i64 0, .int .u64 0, .int .i64 0] 1 [(0, (.t 63))], none, 0, []⟩,
    ⟨some 65, .append 3 24 (.t 62) (.t 64), none, 0, []⟩,
    ⟨some 5, .mv (.t 65), none, 0, []⟩])
  (.seq (.reg false [1, 3, 5, 6, 73] [⟨some 66, .fad 0 (.t 7), none, 0, []⟩,
    ⟨some 67, .load none (.t 66), none, 0, []⟩,
    ⟨some 68, .bin .eql .num (.t 67) (.c (.int .i64 1)), none, 0, []⟩,
    ⟨some 69, .mv (.t 68), none, 0, []⟩,
    ⟨some 70, .fad 2 (.t 7), some (69, false), 0, []⟩,
    ⟨some 71, .load none (.t 70), some (69, false), 0, []⟩,
    ⟨some 72, .bin .eql .num (.t 71) (.c (.int .i64 64)), some (69, false), 0, []⟩,
    ⟨some 73, .pick (.t 69) (.c (.bool true)) (.t 72), none, 0, []⟩])
  (.cond (.t 73) (.seq (.reg false [2] [⟨some 2, .mv (.c (.bool false)), none, 0, []⟩])
  (.ret))
  (.skip)))))))))
  (.reg false [1, 3, 5, 6] [⟨some 35, .mv (.t 6), none, 0, []⟩,
    ⟨some 36, .bin .add .num (.t 35) (.c (.int .i64 1)), none, 0, []⟩,
    ⟨some 6, .mv (.t 36), none, 0, []⟩]))
def burinlaw1_BitsBack_l0 : Cd := .seq (.seq (.reg false [5, 9, 10, 11, 84] [⟨some 81, .mv (.t 11), none, 0, []⟩,
    ⟨some 82, .mv (.t 5), none, 0, []⟩,
    ⟨some 83, .len none (.t 82), none, 0, []⟩,
    ⟨some 84, .bin .lss .num (.t 81) (.t 83), none, 0, []⟩])
  (.cond (.t 84) (.skip)
  (.exit 2)))
  (.seq (.block 3 (.seq (.reg false [5, 9, 10, 11, 12] [⟨some 87, .mv (.t 5), none, 0, []⟩,
    ⟨some 88, .mv (.t 11), none, 0, []⟩,
    ⟨some 89, .iad none 3 (.t 87) (.t 88), none, 0, []⟩,
    ⟨some 90, .load (some 3) (.t 89), none, 0, []⟩,
    ⟨some 12, .alloc [.int .i64 0, .int .u64 0, .int .i64 0], none, 0, []⟩,
    ⟨none, .store 3 (.t 12) (.t 90), none, 0, []⟩])
  (.seq (.reg false [5, 9, 10, 11, 12, 13] [⟨some 91, .mv (.t 10), none, 0, []⟩,
    ⟨some 92, .call (.f 11) [(.t 91)], none, 0, []⟩,
    ⟨some 13, .mv (.t 92), none, 0, []⟩])
  (.seq (.reg false [5, 9, 10, 11, 12, 13] [⟨some 14, .mv (.c (.int .u64 0)), none, 0, []⟩])
  (.seq (.reg false [5, 9, 10, 11, 12, 13] [⟨some 15, .mv (.c (.int .i64 0)), none, 0, []⟩])
  (.seq (.seq (.reg false [5, 9, 10, 11, 12, 13, 95] [⟨some 93, .fad 0 (.t 12), none, 0, []⟩,
    ⟨some 94, .load none (.t 93), none, 0, []⟩,
    ⟨some 95, .bin .eql .num (.t 94) (.c (.int .i64 0)), none, 0, []⟩])
  (.cond (.t 95) (.seq (.reg false [5, 9, 10, 11, 12, 13, 14, 15] [⟨some 97, .mv (.t 10), none, 0, []⟩,
    ⟨some 98, .fad 2 (.t 12), none, 0, []⟩,
    ⟨some 99, .load none (.t 98), none, 0, []⟩,
    ⟨some 100, .call (.f 12) [(.t 97), (.t 99)], none, 0, []⟩,
    ⟨some 96, .mv (.t 100), none, 0, []⟩,
    ⟨some 101, .ext 0 (.t 96), none, 0, []⟩,
    ⟨some 102, .ext 1 (.t 96), none, 0, []⟩,
    ⟨some 14, .mv (.t 101), none, 0, []⟩,
    ⟨some 15, .mv (.t 102), none, 0, []⟩])
  (.seq (.reg true [5, 9, 10, 11, 12, 14, 15, 109] [⟨some 103, .mv (.t 13), none, 0, []⟩,
    ⟨some 104, .mv (.t 10), none, 1, []⟩,
    ⟨some 107, .fad 2 (.t 12), none, 4, []⟩,
    ⟨some 108, .load none (.t 107), none, 5, []⟩,
    ⟨some 105, .call (.f 11) [(.t 104)], none, 2, [5]⟩,
    ⟨some 106, .bin .sub .num (.t 103) (.t 105), none, 3, []⟩,
    ⟨some 109, .bin .neq .num (.t 106) (.t 108), none, 6, []⟩])
  (.cond (.t 109) (.seq (.reg false [2] [⟨some 2, .mv (.c (.bool false)), none, 0, []⟩])
  (.ret))
  (.skip))))
  (.seq (.reg false [5, 9, 10, 11, 12, 13, 112] [⟨some 110, .fad 0 (.t 12), none, 0, []⟩,
    ⟨some 111, .load none (.t 110), none, 0, []⟩,
    ⟨some 112, .bin .eql .num (.t 111) (.c (.int .i64 1)), none, 0, []⟩])
  (.cond (.t 112) (.seq (.reg false [5, 9, 10, 11, 12, 13, 14, 15] [⟨some 114, .mv (.t 10), none, 0, []⟩,
    ⟨some 115, .call (.f 15) [(.t 114)], none, 0, []⟩,
    ⟨some 113, .mv (.t 115), none, 0, []⟩,
    ⟨some 116, .ext 0 (.t 113), none, 0, []⟩,
    ⟨some 117, .ext 1 (.t 113), none, 0, []⟩,
    ⟨some 14, .mv (.t 116), none, 0, []⟩,
    ⟨some 15, .mv (.t 117), none, 0, []⟩])
  (.seq (.reg true [5, 9, 10, 11, 12, 14, 15, 127] [⟨some 118, .mv (.t 13), none, 0, []⟩,
    ⟨some 119, .mv (.t 10), none, 1, []⟩,
    ⟨some 122, .fad 1 (.t 12), none, 4, []⟩,
    ⟨some 123, .load none (.t 122), none, 5, []⟩,
    ⟨some 120, .call (.f 11) [(.t 119)], none, 2, [5]⟩,
    ⟨some 121, .bin .sub .num (.t 118) (.t 120), none, 3, []⟩,
    ⟨some 124, .call (.f 18) [(.t 123)], none, 6, []⟩,
    ⟨some 125, .len none (.t 124), none, 7, []⟩,
    ⟨some 126, .bin .mul .num (.c (.int .i64 8)) (.t 125), none, 8, []⟩,
    ⟨some 127, .bin .neq .num (.t 121) (.t 126), none, 9, []⟩])
  (.cond (.t 127) (.seq (.reg false [2] [⟨some 2, .mv (.c (.bool false)), none, 0, []⟩])
  (.ret))
  (.skip))))
  (.seq (.reg false [5, 9, 10, 11, 12, 15] [⟨some 128, .mv (.t 10), none, 0, []⟩,
    ⟨some 129, .call (.f 16) [(.t 128)], none, 0, []⟩,
    ⟨some 15, .mv (.t 129), none, 0, []⟩])
  (.reg false [5, 9, 10, 11, 12, 14, 15] [⟨some 130, .fad 1 (.t 12), none, 0, []⟩,
    ⟨some 131, .load none (.t 130), none, 0, []⟩,
    ⟨some 14, .mv (.t 131), none, 0, []⟩]))))))
  (.seq (.reg false [5, 9, 10, 11, 139] [⟨some 132, .mv (.t 15), none, 0, []⟩,
    ⟨some 133, .bin .neq .num (.t 132) (.c (.int .i64 0)), none, 0, []⟩,
    ⟨some 134, .mv (.t 133), none, 0, []⟩,
    ⟨some 135, .mv (.t 14), some (134, false), 0, []⟩,
    ⟨some 136, .fad 1 (.t 12), some (134, false), 0, []⟩,
    ⟨some 137, .load none (.t 136), some (134, false), 0, []⟩,
    ⟨some 138, .bin .neq .num (.t 135) (.t 137), some (134, false), 0, []⟩,
    ⟨some 139, .pick (.t 134) (.c (.bool true)) (.t 138), none, 0, []⟩])
  (.cond (.t 139) (.seq (.reg false [2] [⟨some 2, .mv (.c (.bool false)), none, 0, []⟩])
  (.ret))
  (.skip)))))))))
  (.reg false [5, 9, 10, 11] [⟨some 85, .mv (.t 11), none, 0, []⟩,
    ⟨some 86, .bin .add .num (.t 85) (.c (.int .i64 1)), none, 0, []⟩,
    ⟨some 11, .mv (.t 86), none, 0, []⟩]))
/-- burin/burinlaw1.BitsBack -/
def burinlaw1_BitsBack : AFun := ⟨1, 160, true, [.t 2],
  .seq (.reg false [1] [⟨some 1, .box 2 (.t 0), none, 0, []⟩,
    ⟨some 2, .mv (.c (.bool false)), none, 0, []⟩])
  (.seq (.reg false [1, 3, 4] [⟨some 17, .call (.f 4) [(.c (.int .i64 67108864))], none, 0, []⟩,
    ⟨some 16, .mv (.t 17), none, 0, []⟩,
    ⟨some 18, .ext 0 (.t 16), none, 0, []⟩,
    ⟨some 19, .ext 1 (.t 16), none, 0, []⟩,
    ⟨some 3, .mv (.t 18), none, 0, []⟩,
    ⟨some 4, .mv (.t 19), none, 0, []⟩])
  (.seq (.seq (.reg false [1, 3, 25] [⟨some 20, .mv (.t 4), none, 0, []⟩,
    ⟨some 21, .bin .neq .num (.t 20) (.c (.int .i64 0)), none, 0, []⟩,
    ⟨some 22, .mv (.t 21), none, 0, []⟩,
    ⟨some 23, .mv (.t 3), some (22, false), 0, []⟩,
    ⟨some 24, .bin .eql .ptr (.t 23) (.c (.ptr none)), some (22, false), 0, []⟩,
    ⟨some 25, .pick (.t 22) (.c (.bool true)) (.t 24), none, 0, []⟩])
  (.cond (.t 25) (.seq (.reg false [2] [⟨some 2, .mv (.c (.bool false)), none, 0, []⟩])
  (.ret))
  (.skip)))
  (.seq (.reg false [1, 3, 5] [⟨some 5, .mv (.c (.sl none 0 0 0)), none, 0, []⟩])
  (.seq (.seq (.reg false [1, 3, 5, 6] [⟨some 6, .mv (.c (.int .i64 0)), none, 0, []⟩])
  (.block 0 (.loop [1, 3, 5, 6] burinlaw1_BitsBack_l1)))
  (.seq (.reg false [3, 5, 9] [⟨some 74, .mv (.t 3), none, 0, []⟩,
    ⟨some 75, .call (.f 8) [(.t 74)], none, 0, []⟩,
    ⟨some 9, .mv (.t 75), none, 0, []⟩])
  (.seq (.reg false [5, 9, 10] [⟨some 76, .mv (.t 3), none, 0, []⟩,
    ⟨some 77, .call (.f 9) [(.t 76)], none, 0, []⟩,
    ⟨some 78, .call (.f 10) [(.t 77)], none, 0, []⟩,
    ⟨some 10, .mv (.t 78), none, 0, []⟩])
  (.seq (.seq (.reg false [5, 9, 10, 80] [⟨some 79, .mv (.t 10), none, 0, []⟩,
    ⟨some 80, .bin .eql .ptr (.t 79) (.c (.ptr none)), none, 0, []⟩])
  (.cond (.t 80) (.seq (.reg false [2] [⟨some 2, .mv (.c (.bool false)), none, 0, []⟩])
  (.ret))
  (.skip)))
  (.seq (.seq (.reg false [5, 9, 10, 11] [⟨some 11, .mv (.c (.int .i64 0)), none, 0, []⟩])
  (.block 2 (.loop [5, 9, 10, 11] burinlaw1_BitsBack_l0)))
  (.seq (.reg false [2] [⟨some 140, .mv (.t 10), none, 0, []⟩,
    ⟨some 141, .call (.f 11) [(.t 140)], none, 0, []⟩,
    ⟨some 142, .mv (.t 9), none, 0, []⟩,
    ⟨some 143, .bin .rem .num (.t 142) (.c (.int .i64 8)), none, 0, []⟩,
    ⟨some 144, .bin .sub .num (.c (.int .i64 8)) (.t 143), none, 0, []⟩,
    ⟨some 145, .bin .rem .num (.t 144) (.c (.int .i64 8)), none, 0, []⟩,
    ⟨some 146, .bin .eql .num (.t 141) (.t 145), none, 0, []⟩,
    ⟨some 147, .mv (.t 146), none, 0, []⟩,
    ⟨some 148, .mv (.t 10), some (147, true), 0, []⟩,
    ⟨some 149, .call (.f 16) [(.t 148)], some (147, true), 0, []⟩,
    ⟨some 150, .bin .eql .num (.t 149) (.c (.int .i64 0)), some (147, true), 0, []⟩,
    ⟨some 151, .pick (.t 147) (.t 150) (.c (.bool false)), none, 0, []⟩,
    ⟨some 152, .mv (.t 151), none, 0, []⟩,
    ⟨some 153, .mv (.t 10), some (152, true), 0, []⟩,
    ⟨some 154, .call (.f 11) [(.t 153)], some (152, true), 0, []⟩,
    ⟨some 155, .bin .eql .num (.t 154) (.c (.int .i64 0)), some (152, true), 0, []⟩,
    ⟨some 156, .pick (.t 152) (.t 155) (.c (.bool false)), none, 0, []⟩,
    ⟨some 157, .mv (.t 156), none, 0, []⟩,
    ⟨some 158, .call (.f 32) [], some (157, true), 0, []⟩,
    ⟨some 159, .pick (.t 157) (.t 158) (.c (.bool false)), none, 0, []⟩,
    ⟨some 2, .mv (.t 159), none, 0, []⟩])
  (.ret))))))))))⟩

/-- A program that has them. -/
structure HasLawBits (P : Prog) : Prop where
  h_burinlaw1_wakes : P 32 = some burinlaw1_wakes
  h_burinlaw1_BitsVars : P 33 = some burinlaw1_BitsVars
  h_burinlaw1_BitsWrites : P 34 = some burinlaw1_BitsWrites
  h_burinlaw1_BitsRoom : P 35 = some burinlaw1_BitsRoom
  h_burinlaw1_BitsParts : P 36 = some burinlaw1_BitsParts
  h_burinlaw1_BitsReads : P 37 = some burinlaw1_BitsReads
  h_burinlaw1_BitsBack : P 38 = some burinlaw1_BitsBack

end Go.Ab
