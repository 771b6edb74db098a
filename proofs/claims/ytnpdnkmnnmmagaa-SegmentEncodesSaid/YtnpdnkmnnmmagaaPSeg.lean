/- The texts of functions of the given program, for the abstract machine: written by wip/tools/gen.py out of Lean's print of the translation. Conditions: none; definitions alone. -/
import Derived.Test.YtnpdnkmnnmmagaaK4
set_option linter.all false
namespace Go.Ab
-- segment_allowed: 152, parameters kind; loops 
-- segment_rule_paged: 153, parameters r page; loops 
-- segment_Check: 154, parameters ?; loops segment_Check_l0 [1 ?, 5 ?, 78 ?, 79 ?, 80 ?]
-- segment_flag: 155, parameters is; loops 
-- segment_Encode: 156, parameters ?; loops segment_Encode_l0 [1 ?, 4 ?, 54 ?, 55 ?, 56 ?]; segment_Encode_l1 [1 ?, 4 ?, 42 ?, 43 ?, 44 ?]
-- segment_wrong: 157, parameters bad; loops 
-- segment_need: 158, parameters err; loops 
-- segment_reader_number: 159, parameters r bound; loops 
-- segment_reader_flag: 160, parameters r; loops 
-- segment_reader_head: 161, parameters ?; loops segment_reader_head_l0 [1 ?, 2 ?, 6 ?, 75 ?, 76 ?]; segment_reader_head_l1 [1 ?, 2 ?, 6 ?, 8 ?, 9 ?, 56 ?, 57 ?]
-- segment_Decode_1: 162, parameters    ; loops 
-- segment_Decode: 163, parameters f at; loops 
-- burinref0_EqSegment: 166, parameters a b; loops 
-- burinref0_EqInts: 164, parameters a b; loops burinref0_EqInts_l0 [0 a, 1 b, 5 i]
-- burinref0_EqFlags: 165, parameters a b; loops burinref0_EqFlags_l0 [0 a, 1 b, 5 i]
-- burinlaw16_wakes: 167, parameters ; loops 

/-- burin/segment.allowed -/
def segment_allowed : AFun := ⟨1, 26, true, [.cell 2 (some 4), .t 3],
  .seq (.reg false [0, 2] [⟨some 2, .alloc [.int .i64 0, .bool false, .bool false, .bool false], none, 0, []⟩,
    ⟨some 3, .mv (.c (.bool false)), none, 0, []⟩])
  (.seq (.reg false [0, 2, 4] [⟨some 5, .build [.int .i64 0, .bool false, .bool false, .bool false] [(0, 1, (.c (.int .i64 2))), (3, 1, (.c (.bool true)))], none, 0, []⟩,
    ⟨some 6, .build [.int .i64 0, .bool false, .bool false, .bool false] [(0, 1, (.c (.int .i64 1))), (1, 1, (.c (.bool true))), (2, 1, (.c (.bool true))), (3, 1, (.c (.bool true)))], none, 0, []⟩,
    ⟨some 7, .build [.int .i64 0, .bool false, .bool false, .bool false] [(0, 1, (.c (.int .i64 2))), (1, 1, (.c (.bool true))), (3, 1, (.c (.bool true)))], none, 0, []⟩,
    ⟨some 8, .build [.int .i64 0, .bool false, .bool false, .bool false] [(0, 1, (.c (.int .i64 2))), (3, 1, (.c (.bool true)))], none, 0, []⟩,
    ⟨some 9, .build [.int .i64 0, .bool false, .bool false, .bool false] [(0, 1, (.c (.int .i64 2))), (3, 1, (.c (.bool true)))], none, 0, []⟩,
    ⟨some 10, .build [.int .i64 0, .bool false, .bool false, .bool false] [(0, 1, (.c (.int .i64 2)))], none, 0, []⟩,
    ⟨some 11, .build [.int .i64 0, .bool false, .bool false, .bool false] [(0, 1, (.c (.int .i64 0)))], none, 0, []⟩,
    ⟨some 12, .bslice 4 [.int .i64 0, .bool false, .bool false, .bool false] 8 [(1, (.t 5)), (2, (.t 6)), (3, (.t 7)), (4, (.t 8)), (5, (.t 9)), (6, (.t 10)), (7, (.t 11))], none, 0, []⟩,
    ⟨some 4, .mv (.t 12), none, 0, []⟩])
  (.seq (.seq (.reg false [0, 2, 4, 20] [⟨some 13, .mv (.t 0), none, 0, []⟩,
    ⟨some 14, .bin .leq .num (.t 13) (.c (.int .i64 0)), none, 0, []⟩,
    ⟨some 15, .mv (.t 14), none, 0, []⟩,
    ⟨some 16, .mv (.t 0), some (15, false), 0, []⟩,
    ⟨some 17, .mv (.t 4), some (15, false), 0, []⟩,
    ⟨some 18, .len none (.t 17), some (15, false), 0, []⟩,
    ⟨some 19, .bin .geq .num (.t 16) (.t 18), some (15, false), 0, []⟩,
    ⟨some 20, .pick (.t 15) (.c (.bool true)) (.t 19), none, 0, []⟩])
  (.cond (.t 20) (.seq (.reg false [2, 3] [⟨some 21, .build [.int .i64 0, .bool false, .bool false, .bool false] [], none, 0, []⟩,
    ⟨none, .store 4 (.t 2) (.t 21), none, 0, []⟩,
    ⟨some 3, .mv (.c (.bool false)), none, 0, []⟩])
  (.ret))
  (.skip)))
  (.seq (.reg false [2, 3] [⟨some 22, .mv (.t 4), none, 0, []⟩,
    ⟨some 23, .mv (.t 0), none, 0, []⟩,
    ⟨some 24, .iad none 4 (.t 22) (.t 23), none, 0, []⟩,
    ⟨some 25, .load (some 4) (.t 24), none, 0, []⟩,
    ⟨none, .store 4 (.t 2) (.t 25), none, 0, []⟩,
    ⟨some 3, .mv (.c (.bool true)), none, 0, []⟩])
  (.ret))))⟩

/-- (burin/segment.rule).paged -/
def segment_rule_paged : AFun := ⟨2, 25, true, [.t 4],
  .seq (.reg false [1, 2] [⟨some 2, .box 4 (.t 0), none, 0, []⟩,
    ⟨some 4, .mv (.c (.bool false)), none, 0, []⟩])
  (.seq (.seq (.reg false [1, 6] [⟨some 5, .fad 0 (.t 2), none, 0, []⟩,
    ⟨some 6, .load none (.t 5), none, 0, []⟩])
  (.block 0 (.seq (.reg false [1, 6, 7] [⟨some 8, .bin .eql .num (.t 6) (.c (.int .i64 0)), none, 0, []⟩,
    ⟨some 7, .mv (.t 8), none, 0, []⟩])
  (.cond (.t 7) (.seq (.reg false [4] [⟨some 9, .mv (.t 1), none, 0, []⟩,
    ⟨some 10, .bin .eql .num (.t 9) (.c (.int .i64 0)), none, 0, []⟩,
    ⟨some 4, .mv (.t 10), none, 0, []⟩])
  (.ret))
  (.seq (.reg false [1, 11] [⟨some 12, .bin .eql .num (.t 6) (.c (.int .i64 1)), none, 0, []⟩,
    ⟨some 11, .mv (.t 12), none, 0, []⟩])
  (.cond (.t 11) (.seq (.reg false [4] [⟨some 13, .mv (.t 1), none, 0, []⟩,
    ⟨some 14, .bin .geq .num (.t 13) (.c (.int .i64 0)), none, 0, []⟩,
    ⟨some 15, .mv (.t 14), none, 0, []⟩,
    ⟨some 16, .mv (.t 1), some (15, true), 0, []⟩,
    ⟨some 17, .bin .leq .num (.t 16) (.c (.int .i64 64)), some (15, true), 0, []⟩,
    ⟨some 18, .pick (.t 15) (.t 17) (.c (.bool false)), none, 0, []⟩,
    ⟨some 4, .mv (.t 18), none, 0, []⟩])
  (.ret))
  (.skip)))))))
  (.seq (.reg false [4] [⟨some 19, .mv (.t 1), none, 0, []⟩,
    ⟨some 20, .bin .geq .num (.t 19) (.c (.int .i64 1)), none, 0, []⟩,
    ⟨some 21, .mv (.t 20), none, 0, []⟩,
    ⟨some 22, .mv (.t 1), some (21, true), 0, []⟩,
    ⟨some 23, .bin .leq .num (.t 22) (.c (.int .i64 64)), some (21, true), 0, []⟩,
    ⟨some 24, .pick (.t 21) (.t 23) (.c (.bool false)), none, 0, []⟩,
    ⟨some 4, .mv (.t 24), none, 0, []⟩])
  (.ret)))⟩

def segment_Check_l0 : Cd := .seq (.reg false [1, 5, 78, 79, 80, 81] [⟨some 81, .bin .lss .num (.t 80) (.t 79), none, 0, []⟩])
  (.seq (.cond (.t 81) (.skip)
  (.exit 0))
  (.seq (.block 1 (.seq (.reg false [1, 5, 7, 78, 79, 80] [⟨some 82, .iad none 1 (.t 78) (.t 80), none, 0, []⟩,
    ⟨some 83, .load none (.t 82), none, 0, []⟩,
    ⟨some 7, .mv (.t 83), none, 0, []⟩])
  (.seq (.seq (.reg false [1, 7, 78, 79, 80, 92] [⟨some 84, .mv (.t 7), none, 0, []⟩,
    ⟨some 85, .mv (.t 5), none, 0, []⟩,
    ⟨some 86, .bin .leq .num (.t 84) (.t 85), none, 0, []⟩,
    ⟨some 87, .mv (.t 86), none, 0, []⟩,
    ⟨some 88, .mv (.t 7), some (87, false), 0, []⟩,
    ⟨some 89, .fad 0 (.t 1), some (87, false), 0, []⟩,
    ⟨some 90, .load none (.t 89), some (87, false), 0, []⟩,
    ⟨some 91, .bin .geq .num (.t 88) (.t 90), some (87, false), 0, []⟩,
    ⟨some 92, .pick (.t 87) (.c (.bool true)) (.t 91), none, 0, []⟩])
  (.cond (.t 92) (.seq (.reg false [2] [⟨some 2, .mv (.c (.bool false)), none, 0, []⟩])
  (.ret))
  (.skip)))
  (.reg false [1, 5, 78, 79, 80] [⟨some 93, .mv (.t 7), none, 0, []⟩,
    ⟨some 5, .mv (.t 93), none, 0, []⟩]))))
  (.reg false [1, 5, 78, 79, 80] [⟨some 94, .bin .add .num (.t 80) (.c (.int .i64 1)), none, 0, []⟩,
    ⟨some 80, .mv (.t 94), none, 0, []⟩])))
/-- burin/segment.Check -/
def segment_Check : AFun := ⟨1, 95, true, [.t 2],
  .seq (.reg false [1] [⟨some 1, .box 7 (.t 0), none, 0, []⟩,
    ⟨some 2, .mv (.c (.bool false)), none, 0, []⟩])
  (.seq (.reg false [1, 3, 4] [⟨some 9, .fad 1 (.t 1), none, 0, []⟩,
    ⟨some 10, .load none (.t 9), none, 0, []⟩,
    ⟨some 11, .call (.f 152) [(.t 10)], none, 0, []⟩,
    ⟨some 8, .mv (.t 11), none, 0, []⟩,
    ⟨some 12, .ext 0 (.t 8), none, 0, []⟩,
    ⟨some 13, .ext 1 (.t 8), none, 0, []⟩,
    ⟨some 3, .alloc [.int .i64 0, .bool false, .bool false, .bool false], none, 0, []⟩,
    ⟨none, .store 4 (.t 3) (.t 12), none, 0, []⟩,
    ⟨some 4, .mv (.t 13), none, 0, []⟩])
  (.seq (.seq (.reg false [1, 3, 41] [⟨some 14, .mv (.t 4), none, 0, []⟩,
    ⟨some 15, .un .not (.t 14), none, 0, []⟩,
    ⟨some 16, .mv (.t 15), none, 0, []⟩,
    ⟨some 17, .fad 0 (.t 1), some (16, false), 0, []⟩,
    ⟨some 18, .load none (.t 17), some (16, false), 0, []⟩,
    ⟨some 19, .bin .lss .num (.t 18) (.c (.int .i64 0)), some (16, false), 0, []⟩,
    ⟨some 20, .pick (.t 16) (.c (.bool true)) (.t 19), none, 0, []⟩,
    ⟨some 21, .mv (.t 20), none, 0, []⟩,
    ⟨some 22, .fad 0 (.t 1), some (21, false), 0, []⟩,
    ⟨some 23, .load none (.t 22), some (21, false), 0, []⟩,
    ⟨some 24, .bin .geq .num (.t 23) (.c (.int .i64 32768)), some (21, false), 0, []⟩,
    ⟨some 25, .pick (.t 21) (.c (.bool true)) (.t 24), none, 0, []⟩,
    ⟨some 26, .mv (.t 25), none, 0, []⟩,
    ⟨some 27, .load (some 4) (.t 3), some (26, false), 0, []⟩,
    ⟨some 28, .fad 2 (.t 1), some (26, false), 0, []⟩,
    ⟨some 29, .load none (.t 28), some (26, false), 0, []⟩,
    ⟨some 30, .call (.f 153) [(.t 27), (.t 29)], some (26, false), 0, []⟩,
    ⟨some 31, .un .not (.t 30), some (26, false), 0, []⟩,
    ⟨some 32, .pick (.t 26) (.c (.bool true)) (.t 31), none, 0, []⟩,
    ⟨some 33, .mv (.t 32), none, 0, []⟩,
    ⟨some 34, .fad 4 (.t 1), some (33, false), 0, []⟩,
    ⟨some 35, .load none (.t 34), some (33, false), 0, []⟩,
    ⟨some 36, .len none (.t 35), some (33, false), 0, []⟩,
    ⟨some 37, .fad 3 (.t 1), some (33, false), 0, []⟩,
    ⟨some 38, .load none (.t 37), some (33, false), 0, []⟩,
    ⟨some 39, .len none (.t 38), some (33, false), 0, []⟩,
    ⟨some 40, .bin .neq .num (.t 36) (.t 39), some (33, false), 0, []⟩,
    ⟨some 41, .pick (.t 33) (.c (.bool true)) (.t 40), none, 0, []⟩])
  (.cond (.t 41) (.seq (.reg false [2] [⟨some 2, .mv (.c (.bool false)), none, 0, []⟩])
  (.ret))
  (.skip)))
  (.seq (.seq (.reg false [1, 76] [⟨some 42, .fad 3 (.t 1), none, 0, []⟩,
    ⟨some 43, .load none (.t 42), none, 0, []⟩,
    ⟨some 44, .len none (.t 43), none, 0, []⟩,
    ⟨some 45, .bin .gtr .num (.t 44) (.c (.int .i64 0)), none, 0, []⟩,
    ⟨some 46, .mv (.t 45), none, 0, []⟩,
    ⟨some 47, .fad 1 (.t 3), some (46, true), 0, []⟩,
    ⟨some 48, .load none (.t 47), some (46, true), 0, []⟩,
    ⟨some 49, .un .not (.t 48), some (46, true), 0, []⟩,
    ⟨some 50, .pick (.t 46) (.t 49) (.c (.bool false)), none, 0, []⟩,
    ⟨some 51, .mv (.t 50), none, 0, []⟩,
    ⟨some 52, .fad 5 (.t 1), some (51, false), 0, []⟩,
    ⟨some 53, .load none (.t 52), some (51, false), 0, []⟩,
    ⟨some 54, .mv (.t 53), some (51, false), 0, []⟩,
    ⟨some 55, .fad 2 (.t 3), some (54, true), 0, []⟩,
    ⟨some 56, .load none (.t 55), some (54, true), 0, []⟩,
    ⟨some 57, .un .not (.t 56), some (54, true), 0, []⟩,
    ⟨some 58, .pick (.t 54) (.t 57) (.c (.bool false)), some (51, false), 0, []⟩,
    ⟨some 59, .pick (.t 51) (.c (.bool true)) (.t 58), none, 0, []⟩,
    ⟨some 60, .mv (.t 59), none, 0, []⟩,
    ⟨some 61, .fad 6 (.t 1), some (60, false), 0, []⟩,
    ⟨some 62, .load none (.t 61), some (60, false), 0, []⟩,
    ⟨some 63, .len none (.t 62), some (60, false), 0, []⟩,
    ⟨some 64, .bin .gtr .num (.t 63) (.c (.int .i64 0)), some (60, false), 0, []⟩,
    ⟨some 65, .mv (.t 64), some (60, false), 0, []⟩,
    ⟨some 66, .fad 3 (.t 3), some (65, true), 0, []⟩,
    ⟨some 67, .load none (.t 66), some (65, true), 0, []⟩,
    ⟨some 68, .un .not (.t 67), some (65, true), 0, []⟩,
    ⟨some 69, .pick (.t 65) (.t 68) (.c (.bool false)), some (60, false), 0, []⟩,
    ⟨some 70, .pick (.t 60) (.c (.bool true)) (.t 69), none, 0, []⟩,
    ⟨some 71, .mv (.t 70), none, 0, []⟩,
    ⟨some 72, .fad 6 (.t 1), some (71, false), 0, []⟩,
    ⟨some 73, .load none (.t 72), some (71, false), 0, []⟩,
    ⟨some 74, .len none (.t 73), some (71, false), 0, []⟩,
    ⟨some 75, .bin .gtr .num (.t 74) (.c (.int .i64 67108864)), some (71, false), 0, []⟩,
    ⟨some 76, .pick (.t 71) (.c (.bool true)) (.t 75), none, 0, []⟩])
  (.cond (.t 76) (.seq (.reg false [2] [⟨some 2, .mv (.c (.bool false)), none, 0, []⟩])
  (.ret))
  (.skip)))
  (.seq (.reg false [1, 5] [⟨some 5, .mv (.c (.int .i64 (-1))), none, 0, []⟩])
  (.seq (.seq (.reg false [1, 5, 78, 79, 80] [⟨some 77, .fad 3 (.t 1), none, 0, []⟩,
    ⟨some 78, .load none (.t 77), none, 0, []⟩,
    ⟨some 79, .len none (.t 78), none, 0, []⟩,
    ⟨some 80, .mv (.c (.int .i64 0)), none, 0, []⟩])
  (.block 0 (.loop [1, 5, 78, 79, 80] segment_Check_l0)))
  (.seq (.reg false [2] [⟨some 2, .mv (.c (.bool true)), none, 0, []⟩])
  (.ret)))))))⟩

/-- burin/segment.flag -/
def segment_flag : AFun := ⟨1, 4, true, [.t 2],
  .seq (.reg false [0] [⟨some 2, .mv (.c (.int .u64 0)), none, 0, []⟩])
  (.seq (.seq (.reg false [3] [⟨some 3, .mv (.t 0), none, 0, []⟩])
  (.cond (.t 3) (.seq (.reg false [2] [⟨some 2, .mv (.c (.int .u64 1)), none, 0, []⟩])
  (.ret))
  (.skip)))
  (.seq (.reg false [2] [⟨some 2, .mv (.c (.int .u64 0)), none, 0, []⟩])
  (.ret)))⟩

def segment_Encode_l1 : Cd := .seq (.reg false [1, 4, 42, 43, 44, 45] [⟨some 45, .bin .lss .num (.t 44) (.t 43), none, 0, []⟩])
  (.seq (.cond (.t 45) (.skip)
  (.exit 0))
  (.seq (.block 1 (.seq (.reg false [1, 4, 7, 42, 43, 44] [⟨some 46, .iad none 1 (.t 42) (.t 44), none, 0, []⟩,
    ⟨some 47, .load none (.t 46), none, 0, []⟩,
    ⟨some 7, .mv (.t 47), none, 0, []⟩])
  (.reg false [1, 4, 42, 43, 44] [⟨some 48, .mv (.t 4), none, 0, []⟩,
    ⟨some 49, .mv (.t 7), none, 0, []⟩,
    ⟨some 50, .conv .u64 (.t 49), none, 0, []⟩,
    ⟨some 51, .call (.f 6) [(.t 48), (.t 50)], none, 0, []⟩])))
  (.reg false [1, 4, 42, 43, 44] [⟨some 52, .bin .add .num (.t 44) (.c (.int .i64 1)), none, 0, []⟩,
    ⟨some 44, .mv (.t 52), none, 0, []⟩])))
def segment_Encode_l0 : Cd := .seq (.reg false [1, 4, 54, 55, 56, 57] [⟨some 57, .bin .lss .num (.t 56) (.t 55), none, 0, []⟩])
  (.seq (.cond (.t 57) (.skip)
  (.exit 2))
  (.seq (.block 3 (.seq (.reg false [1, 4, 9, 54, 55, 56] [⟨some 58, .iad none 1 (.t 54) (.t 56), none, 0, []⟩,
    ⟨some 59, .load none (.t 58), none, 0, []⟩,
    ⟨some 9, .mv (.t 59), none, 0, []⟩])
  (.reg false [1, 4, 54, 55, 56] [⟨some 60, .mv (.t 4), none, 0, []⟩,
    ⟨some 61, .mv (.t 9), none, 0, []⟩,
    ⟨some 62, .call (.f 155) [(.t 61)], none, 0, []⟩,
    ⟨some 63, .call (.f 5) [(.t 60), (.t 62), (.c (.int .i64 1))], none, 0, []⟩])))
  (.reg false [1, 4, 54, 55, 56] [⟨some 64, .bin .add .num (.t 56) (.c (.int .i64 1)), none, 0, []⟩,
    ⟨some 56, .mv (.t 64), none, 0, []⟩])))
/-- burin/segment.Encode -/
def segment_Encode : AFun := ⟨1, 80, true, [.t 2, .t 3],
  .seq (.reg false [1] [⟨some 1, .box 7 (.t 0), none, 0, []⟩,
    ⟨some 2, .mv (.c (.sl none 0 0 0)), none, 0, []⟩,
    ⟨some 3, .mv (.c (.int .i64 0)), none, 0, []⟩])
  (.seq (.seq (.reg false [1, 12] [⟨some 10, .load (some 7) (.t 1), none, 0, []⟩,
    ⟨some 11, .call (.f 154) [(.t 10)], none, 0, []⟩,
    ⟨some 12, .un .not (.t 11), none, 0, []⟩])
  (.cond (.t 12) (.seq (.reg false [2, 3] [⟨some 2, .mv (.c (.sl none 0 0 0)), none, 0, []⟩,
    ⟨some 3, .mv (.c (.int .i64 161)), none, 0, []⟩])
  (.ret))
  (.skip)))
  (.seq (.reg false [1, 4, 5] [⟨some 14, .call (.f 4) [(.c (.int .i64 67108864))], none, 0, []⟩,
    ⟨some 13, .mv (.t 14), none, 0, []⟩,
    ⟨some 15, .ext 0 (.t 13), none, 0, []⟩,
    ⟨some 16, .ext 1 (.t 13), none, 0, []⟩,
    ⟨some 4, .mv (.t 15), none, 0, []⟩,
    ⟨some 5, .mv (.t 16), none, 0, []⟩])
  (.seq (.seq (.reg false [1, 4, 5, 18] [⟨some 17, .mv (.t 5), none, 0, []⟩,
    ⟨some 18, .bin .neq .num (.t 17) (.c (.int .i64 0)), none, 0, []⟩])
  (.cond (.t 18) (.seq (.reg false [2, 3] [⟨some 19, .mv (.t 5), none, 0, []⟩,
    ⟨some 2, .mv (.c (.sl none 0 0 0)), none, 0, []⟩,
    ⟨some 3, .mv (.t 19), none, 0, []⟩])
  (.ret))
  (.skip)))
  (.seq (.reg false [1, 4] [⟨some 20, .mv (.t 4), none, 0, []⟩,
    ⟨some 21, .fad 0 (.t 1), none, 0, []⟩,
    ⟨some 22, .load none (.t 21), none, 0, []⟩,
    ⟨some 23, .conv .u64 (.t 22), none, 0, []⟩,
    ⟨some 24, .call (.f 6) [(.t 20), (.t 23)], none, 0, []⟩])
  (.seq (.reg false [1, 4] [⟨some 25, .mv (.t 4), none, 0, []⟩,
    ⟨some 26, .fad 1 (.t 1), none, 0, []⟩,
    ⟨some 27, .load none (.t 26), none, 0, []⟩,
    ⟨some 28, .conv .u64 (.t 27), none, 0, []⟩,
    ⟨some 29, .call (.f 5) [(.t 25), (.t 28), (.c (.int .i64 8))], none, 0, []⟩])
  (.seq (.reg false [1, 4] [⟨some 30, .mv (.t 4), none, 0, []⟩,
    ⟨some 31, .fad 2 (.t 1), none, 0, []⟩,
    ⟨some 32, .load none (.t 31), none, 0, []⟩,
    ⟨some 33, .conv .u64 (.t 32), none, 0, []⟩,
    ⟨some 34, .call (.f 6) [(.t 30), (.t 33)], none, 0, []⟩])
  (.seq (.reg false [1, 4] [⟨some 35, .mv (.t 4), none, 0, []⟩,
    ⟨some 36, .fad 3 (.t 1), none, 0, []⟩,
    ⟨some 37, .load none (.t 36), none, 0, []⟩,
    ⟨some 38, .len none (.t 37), none, 0, []⟩,
    ⟨some 39, .conv .u64 (.t 38), none, 0, []⟩,
    ⟨some 40, .call (.f 6) [(.t 35), (.t 39)], none, 0, []⟩])
  (.seq (.seq (.reg false [1, 4, 42, 43, 44] [⟨some 41, .fad 3 (.t 1), none, 0, []⟩,
    ⟨some 42, .load none (.t 41), none, 0, []⟩,
    ⟨some 43, .len none (.t 42), none, 0, []⟩,
    ⟨some 44, .mv (.c (.int .i64 0)), none, 0, []⟩])
  (.block 0 (.loop [1, 4, 42, 43, 44] segment_Encode_l1)))
  (.seq (.seq (.reg false [1, 4, 54, 55, 56] [⟨some 53, .fad 4 (.t 1), none, 0, []⟩,
    ⟨some 54, .load none (.t 53), none, 0, []⟩,
    ⟨some 55, .len none (.t 54), none, 0, []⟩,
    ⟨some 56, .mv (.c (.int .i64 0)), none, 0, []⟩])
  (.block 2 (.loop [1, 4, 54, 55, 56] segment_Encode_l0)))
  (.seq (.reg false [1, 4] [⟨some 65, .mv (.t 4), none, 0, []⟩,
    ⟨some 66, .fad 5 (.t 1), none, 0, []⟩,
    ⟨some 67, .load none (.t 66), none, 0, []⟩,
    ⟨some 68, .call (.f 155) [(.t 67)], none, 0, []⟩,
    ⟨some 69, .call (.f 5) [(.t 65), (.t 68), (.c (.int .i64 1))], none, 0, []⟩])
  (.seq (.reg false [1, 4] [⟨some 70, .mv (.t 4), none, 0, []⟩,
    ⟨some 71, .call (.f 7) [(.t 70)], none, 0, []⟩])
  (.seq (.reg false [4] [⟨some 72, .mv (.t 4), none, 0, []⟩,
    ⟨some 73, .fad 6 (.t 1), none, 0, []⟩,
    ⟨some 74, .load none (.t 73), none, 0, []⟩,
    ⟨some 75, .len none (.t 74), none, 0, []⟩,
    ⟨some 76, .conv .u64 (.t 75), none, 0, []⟩,
    ⟨some 77, .call (.f 6) [(.t 72), (.t 76)], none, 0, []⟩])
  (.seq (.reg false [2, 3] [⟨some 78, .mv (.t 4), none, 0, []⟩,
    ⟨some 79, .call (.f 9) [(.t 78)], none, 0, []⟩,
    ⟨some 2, .mv (.t 79), none, 0, []⟩,
    ⟨some 3, .mv (.c (.int .i64 0)), none, 0, []⟩])
  (.ret))))))))))))))⟩

/-- burin/segment.wrong -/
def segment_wrong : AFun := ⟨1, 5, true, [],
  .seq (.reg false [2] [⟨some 2, .mv (.t 0), none, 0, []⟩])
  (.cond (.t 2) (.reg false [] [⟨some 3, .build [.int .i64 0] [(0, 1, (.c (.int .i64 161)))], none, 0, []⟩,
    ⟨some 4, .mkifc 0 (.t 3), none, 0, []⟩,
    ⟨none, .pan (.t 4), none, 0, []⟩])
  (.skip))⟩

/-- burin/segment.need -/
def segment_need : AFun := ⟨1, 9, true, [],
  .seq (.seq (.reg false [0, 3] [⟨some 2, .mv (.t 0), none, 0, []⟩,
    ⟨some 3, .bin .eql .num (.t 2) (.c (.int .i64 14)), none, 0, []⟩])
  (.cond (.t 3) (.reg false [0] [⟨some 4, .build [.int .i64 0] [(0, 1, (.c (.int .i64 163)))], none, 0, []⟩,
    ⟨some 5, .mkifc 0 (.t 4), none, 0, []⟩,
    ⟨none, .pan (.t 5), none, 0, []⟩])
  (.skip)))
  (.reg false [] [⟨some 6, .mv (.t 0), none, 0, []⟩,
    ⟨some 7, .bin .neq .num (.t 6) (.c (.int .i64 0)), none, 0, []⟩,
    ⟨some 8, .call (.f 157) [(.t 7)], none, 0, []⟩])⟩

/-- (burin/segment.reader).number -/
def segment_reader_number : AFun := ⟨2, 22, true, [.t 4],
  .seq (.reg false [1, 2] [⟨some 2, .box 1 (.t 0), none, 0, []⟩,
    ⟨some 4, .mv (.c (.int .i64 0)), none, 0, []⟩])
  (.seq (.reg false [1, 5, 6] [⟨some 8, .fad 0 (.t 2), none, 0, []⟩,
    ⟨some 9, .load none (.t 8), none, 0, []⟩,
    ⟨some 10, .call (.f 15) [(.t 9)], none, 0, []⟩,
    ⟨some 7, .mv (.t 10), none, 0, []⟩,
    ⟨some 11, .ext 0 (.t 7), none, 0, []⟩,
    ⟨some 12, .ext 1 (.t 7), none, 0, []⟩,
    ⟨some 5, .mv (.t 11), none, 0, []⟩,
    ⟨some 6, .mv (.t 12), none, 0, []⟩])
  (.seq (.reg false [1, 5] [⟨some 13, .mv (.t 6), none, 0, []⟩,
    ⟨some 14, .call (.f 158) [(.t 13)], none, 0, []⟩])
  (.seq (.reg false [5] [⟨some 15, .mv (.t 5), none, 0, []⟩,
    ⟨some 16, .mv (.t 1), none, 0, []⟩,
    ⟨some 17, .conv .u64 (.t 16), none, 0, []⟩,
    ⟨some 18, .bin .geq .num (.t 15) (.t 17), none, 0, []⟩,
    ⟨some 19, .call (.f 157) [(.t 18)], none, 0, []⟩])
  (.seq (.reg false [4] [⟨some 20, .mv (.t 5), none, 0, []⟩,
    ⟨some 21, .conv .i64 (.t 20), none, 0, []⟩,
    ⟨some 4, .mv (.t 21), none, 0, []⟩])
  (.ret)))))⟩

/-- (burin/segment.reader).flag -/
def segment_reader_flag : AFun := ⟨1, 15, true, [.t 2],
  .seq (.reg false [1] [⟨some 1, .box 1 (.t 0), none, 0, []⟩,
    ⟨some 2, .mv (.c (.bool false)), none, 0, []⟩])
  (.seq (.reg false [3, 4] [⟨some 6, .fad 0 (.t 1), none, 0, []⟩,
    ⟨some 7, .load none (.t 6), none, 0, []⟩,
    ⟨some 8, .call (.f 12) [(.t 7), (.c (.int .i64 1))], none, 0, []⟩,
    ⟨some 5, .mv (.t 8), none, 0, []⟩,
    ⟨some 9, .ext 0 (.t 5), none, 0, []⟩,
    ⟨some 10, .ext 1 (.t 5), none, 0, []⟩,
    ⟨some 3, .mv (.t 9), none, 0, []⟩,
    ⟨some 4, .mv (.t 10), none, 0, []⟩])
  (.seq (.reg false [3] [⟨some 11, .mv (.t 4), none, 0, []⟩,
    ⟨some 12, .call (.f 158) [(.t 11)], none, 0, []⟩])
  (.seq (.reg false [2] [⟨some 13, .mv (.t 3), none, 0, []⟩,
    ⟨some 14, .bin .eql .num (.t 13) (.c (.int .u64 1)), none, 0, []⟩,
    ⟨some 2, .mv (.t 14), none, 0, []⟩])
  (.ret))))⟩

def segment_reader_head_l1 : Cd := .seq (.reg false [1, 2, 6, 8, 9, 56, 57, 58] [⟨some 58, .bin .lss .num (.t 57) (.t 56), none, 0, []⟩])
  (.seq (.cond (.t 58) (.skip)
  (.exit 0))
  (.seq (.block 1 (.seq (.reg false [1, 2, 6, 8, 9, 10, 56, 57] [⟨some 59, .load (some 1) (.t 1), none, 0, []⟩,
    ⟨some 60, .fad 0 (.t 2), none, 0, []⟩,
    ⟨some 61, .load none (.t 60), none, 0, []⟩,
    ⟨some 62, .call (.f 159) [(.t 59), (.t 61)], none, 0, []⟩,
    ⟨some 10, .mv (.t 62), none, 0, []⟩])
  (.seq (.reg false [1, 2, 6, 8, 10, 56, 57] [⟨some 63, .mv (.t 10), none, 0, []⟩,
    ⟨some 64, .mv (.t 9), none, 0, []⟩,
    ⟨some 65, .bin .leq .num (.t 63) (.t 64), none, 0, []⟩,
    ⟨some 66, .call (.f 157) [(.t 65)], none, 0, []⟩])
  (.seq (.reg false [1, 2, 6, 8, 9, 10, 56, 57] [⟨some 67, .mv (.t 10), none, 0, []⟩,
    ⟨some 9, .mv (.t 67), none, 0, []⟩])
  (.reg false [1, 2, 6, 8, 9, 56, 57] [⟨some 68, .fad 3 (.t 2), none, 0, []⟩,
    ⟨some 69, .load none (.t 68), none, 0, []⟩,
    ⟨some 70, .mv (.t 10), none, 0, []⟩,
    ⟨some 71, .bslice 1 [.int .i64 0] 1 [(0, (.t 70))], none, 0, []⟩,
    ⟨some 72, .append 1 8 (.t 69) (.t 71), none, 0, []⟩,
    ⟨some 73, .fad 3 (.t 2), none, 0, []⟩,
    ⟨none, .store 1 (.t 73) (.t 72), none, 0, []⟩])))))
  (.reg false [1, 2, 6, 8, 9, 56, 57] [⟨some 74, .bin .add .num (.t 57) (.c (.int .i64 1)), none, 0, []⟩,
    ⟨some 57, .mv (.t 74), none, 0, []⟩])))
def segment_reader_head_l0 : Cd := .seq (.reg false [1, 2, 6, 75, 76, 77] [⟨some 77, .bin .lss .num (.t 76) (.t 75), none, 0, []⟩])
  (.seq (.cond (.t 77) (.skip)
  (.exit 2))
  (.seq (.block 3 (.reg true [1, 2, 6, 75, 76] [⟨some 78, .fad 4 (.t 2), none, 0, []⟩,
    ⟨some 79, .load none (.t 78), none, 1, []⟩,
    ⟨some 80, .load (some 1) (.t 1), none, 2, []⟩,
    ⟨some 81, .call (.f 160) [(.t 80)], none, 3, [1]⟩,
    ⟨some 82, .bslice 1 [.bool false] 1 [(0, (.t 81))], none, 4, []⟩,
    ⟨some 83, .append 1 1 (.t 79) (.t 82), none, 5, []⟩,
    ⟨some 84, .fad 4 (.t 2), none, 6, []⟩,
    ⟨none, .store 1 (.t 84) (.t 83), none, 7, []⟩]))
  (.reg false [1, 2, 6, 75, 76] [⟨some 85, .bin .add .num (.t 76) (.c (.int .i64 1)), none, 0, []⟩,
    ⟨some 76, .mv (.t 85), none, 0, []⟩])))
/-- (burin/segment.reader).head -/
def segment_reader_head : AFun := ⟨1, 113, true, [.cell 2 (some 7), .t 3],
  .seq (.reg false [1, 2] [⟨some 1, .box 1 (.t 0), none, 0, []⟩,
    ⟨some 2, .alloc [.int .i64 0, .int .i64 0, .int .i64 0, .sl none 0 0 0, .sl none 0 0 0, .bool false, .sl none 0 0 0], none, 0, []⟩,
    ⟨some 3, .mv (.c (.int .i64 0)), none, 0, []⟩])
  (.seq (.reg false [1, 2] [⟨some 11, .load (some 1) (.t 1), none, 0, []⟩,
    ⟨some 12, .call (.f 159) [(.t 11), (.c (.int .i64 32768))], none, 0, []⟩,
    ⟨some 13, .fad 0 (.t 2), none, 0, []⟩,
    ⟨none, .store 1 (.t 13) (.t 12), none, 0, []⟩])
  (.seq (.reg false [1, 2, 4, 5] [⟨some 15, .fad 0 (.t 1), none, 0, []⟩,
    ⟨some 16, .load none (.t 15), none, 0, []⟩,
    ⟨some 17, .call (.f 12) [(.t 16), (.c (.int .i64 8))], none, 0, []⟩,
    ⟨some 14, .mv (.t 17), none, 0, []⟩,
    ⟨some 18, .ext 0 (.t 14), none, 0, []⟩,
    ⟨some 19, .ext 1 (.t 14), none, 0, []⟩,
    ⟨some 4, .mv (.t 18), none, 0, []⟩,
    ⟨some 5, .mv (.t 19), none, 0, []⟩])
  (.seq (.reg false [1, 2, 4] [⟨some 20, .mv (.t 5), none, 0, []⟩,
    ⟨some 21, .call (.f 158) [(.t 20)], none, 0, []⟩])
  (.seq (.reg false [1, 2] [⟨some 22, .mv (.t 4), none, 0, []⟩,
    ⟨some 23, .conv .i64 (.t 22), none, 0, []⟩,
    ⟨some 24, .fad 1 (.t 2), none, 0, []⟩,
    ⟨none, .store 1 (.t 24) (.t 23), none, 0, []⟩])
  (.seq (.reg false [1, 2, 6, 7] [⟨some 26, .fad 1 (.t 2), none, 0, []⟩,
    ⟨some 27, .load none (.t 26), none, 0, []⟩,
    ⟨some 28, .call (.f 152) [(.t 27)], none, 0, []⟩,
    ⟨some 25, .mv (.t 28), none, 0, []⟩,
    ⟨some 29, .ext 0 (.t 25), none, 0, []⟩,
    ⟨some 30, .ext 1 (.t 25), none, 0, []⟩,
    ⟨some 6, .alloc [.int .i64 0, .bool false, .bool false, .bool false], none, 0, []⟩,
    ⟨none, .store 4 (.t 6) (.t 29), none, 0, []⟩,
    ⟨some 7, .mv (.t 30), none, 0, []⟩])
  (.seq (.reg false [1, 2, 6] [⟨some 31, .mv (.t 7), none, 0, []⟩,
    ⟨some 32, .un .not (.t 31), none, 0, []⟩,
    ⟨some 33, .call (.f 157) [(.t 32)], none, 0, []⟩])
  (.seq (.reg false [1, 2, 6] [⟨some 34, .load (some 1) (.t 1), none, 0, []⟩,
    ⟨some 35, .call (.f 159) [(.t 34), (.c (.int .i64 65))], none, 0, []⟩,
    ⟨some 36, .fad 2 (.t 2), none, 0, []⟩,
    ⟨none, .store 1 (.t 36) (.t 35), none, 0, []⟩])
  (.seq (.reg false [1, 2, 6] [⟨some 37, .load (some 4) (.t 6), none, 0, []⟩,
    ⟨some 38, .fad 2 (.t 2), none, 0, []⟩,
    ⟨some 39, .load none (.t 38), none, 0, []⟩,
    ⟨some 40, .call (.f 153) [(.t 37), (.t 39)], none, 0, []⟩,
    ⟨some 41, .un .not (.t 40), none, 0, []⟩,
    ⟨some 42, .call (.f 157) [(.t 41)], none, 0, []⟩])
  (.seq (.reg false [1, 2, 6, 8] [⟨some 43, .load (some 1) (.t 1), none, 0, []⟩,
    ⟨some 44, .fad 0 (.t 2), none, 0, []⟩,
    ⟨some 45, .load none (.t 44), none, 0, []⟩,
    ⟨some 46, .bin .add .num (.t 45) (.c (.int .i64 1)), none, 0, []⟩,
    ⟨some 47, .call (.f 159) [(.t 43), (.t 46)], none, 0, []⟩,
    ⟨some 8, .mv (.t 47), none, 0, []⟩])
  (.seq (.reg false [1, 2, 6, 8] [⟨some 48, .mv (.t 8), none, 0, []⟩,
    ⟨some 49, .bin .gtr .num (.t 48) (.c (.int .i64 0)), none, 0, []⟩,
    ⟨some 50, .mv (.t 49), none, 0, []⟩,
    ⟨some 51, .fad 1 (.t 6), some (50, true), 0, []⟩,
    ⟨some 52, .load none (.t 51), some (50, true), 0, []⟩,
    ⟨some 53, .un .not (.t 52), some (50, true), 0, []⟩,
    ⟨some 54, .pick (.t 50) (.t 53) (.c (.bool false)), none, 0, []⟩,
    ⟨some 55, .call (.f 157) [(.t 54)], none, 0, []⟩])
  (.seq (.reg false [1, 2, 6, 8, 9] [⟨some 9, .mv (.c (.int .i64 (-1))), none, 0, []⟩])
  (.seq (.seq (.reg false [1, 2, 6, 8, 9, 56, 57] [⟨some 56, .mv (.t 8), none, 0, []⟩,
    ⟨some 57, .mv (.c (.int .i64 0)), none, 0, []⟩])
  (.block 0 (.loop [1, 2, 6, 8, 9, 56, 57] segment_reader_head_l1)))
  (.seq (.seq (.reg false [1, 2, 6, 75, 76] [⟨some 75, .mv (.t 8), none, 0, []⟩,
    ⟨some 76, .mv (.c (.int .i64 0)), none, 0, []⟩])
  (.block 2 (.loop [1, 2, 6, 75, 76] segment_reader_head_l0)))
  (.seq (.reg false [1, 2, 6] [⟨some 86, .load (some 1) (.t 1), none, 0, []⟩,
    ⟨some 87, .call (.f 160) [(.t 86)], none, 0, []⟩,
    ⟨some 88, .fad 5 (.t 2), none, 0, []⟩,
    ⟨none, .store 1 (.t 88) (.t 87), none, 0, []⟩])
  (.seq (.reg false [1, 2, 6] [⟨some 89, .fad 5 (.t 2), none, 0, []⟩,
    ⟨some 90, .load none (.t 89), none, 0, []⟩,
    ⟨some 91, .mv (.t 90), none, 0, []⟩,
    ⟨some 92, .fad 2 (.t 6), some (91, true), 0, []⟩,
    ⟨some 93, .load none (.t 92), some (91, true), 0, []⟩,
    ⟨some 94, .un .not (.t 93), some (91, true), 0, []⟩,
    ⟨some 95, .pick (.t 91) (.t 94) (.c (.bool false)), none, 0, []⟩,
    ⟨some 96, .call (.f 157) [(.t 95)], none, 0, []⟩])
  (.seq (.reg false [1, 2, 6] [⟨some 97, .fad 0 (.t 1), none, 0, []⟩,
    ⟨some 98, .load none (.t 97), none, 0, []⟩,
    ⟨some 99, .call (.f 16) [(.t 98)], none, 0, []⟩,
    ⟨some 100, .call (.f 158) [(.t 99)], none, 0, []⟩])
  (.seq (.reg false [2, 3, 6] [⟨some 101, .load (some 1) (.t 1), none, 0, []⟩,
    ⟨some 102, .call (.f 159) [(.t 101), (.c (.int .i64 67108865))], none, 0, []⟩,
    ⟨some 3, .mv (.t 102), none, 0, []⟩])
  (.seq (.reg false [2, 3] [⟨some 103, .mv (.t 3), none, 0, []⟩,
    ⟨some 104, .bin .gtr .num (.t 103) (.c (.int .i64 0)), none, 0, []⟩,
    ⟨some 105, .mv (.t 104), none, 0, []⟩,
    ⟨some 106, .fad 3 (.t 6), some (105, true), 0, []⟩,
    ⟨some 107, .load none (.t 106), some (105, true), 0, []⟩,
    ⟨some 108, .un .not (.t 107), some (105, true), 0, []⟩,
    ⟨some 109, .pick (.t 105) (.t 108) (.c (.bool false)), none, 0, []⟩,
    ⟨some 110, .call (.f 157) [(.t 109)], none, 0, []⟩])
  (.seq (.reg false [2, 3] [⟨some 111, .load (some 7) (.t 2), none, 0, []⟩,
    ⟨some 112, .mv (.t 3), none, 0, []⟩,
    ⟨none, .store 7 (.t 2) (.t 111), none, 0, []⟩,
    ⟨some 3, .mv (.t 112), none, 0, []⟩])
  (.ret))))))))))))))))))))⟩

/-- burin/segment.Decode$1 -/
def segment_Decode_1 : AFun := ⟨4, 21, false, [],
  .recov 7 (.seq (.reg false [0, 1, 2, 3, 4] [⟨some 4, .mv (.t 7), none, 0, []⟩])
  (.seq (.reg false [0, 1, 2, 3, 4, 9] [⟨some 8, .mv (.t 4), none, 0, []⟩,
    ⟨some 9, .isnil true (.t 8), none, 0, []⟩])
  (.cond (.t 9) (.seq (.reg false [0, 1, 2, 3, 4, 5, 6] [⟨some 11, .mv (.t 4), none, 0, []⟩,
    ⟨some 12, .asrt 0 (.t 11), none, 0, []⟩,
    ⟨some 10, .mv (.t 12), none, 0, []⟩,
    ⟨some 13, .ext 0 (.t 10), none, 0, []⟩,
    ⟨some 14, .ext 1 (.t 10), none, 0, []⟩,
    ⟨some 5, .alloc [.int .i64 0], none, 0, []⟩,
    ⟨none, .store 1 (.t 5) (.t 13), none, 0, []⟩,
    ⟨some 6, .mv (.t 14), none, 0, []⟩])
  (.seq (.seq (.reg false [0, 1, 2, 3, 4, 5, 16] [⟨some 15, .mv (.t 6), none, 0, []⟩,
    ⟨some 16, .un .not (.t 15), none, 0, []⟩])
  (.cond (.t 16) (.reg false [0, 1, 2, 3, 5] [⟨some 17, .mv (.t 4), none, 0, []⟩,
    ⟨none, .pan (.t 17), none, 0, []⟩])
  (.skip)))
  (.reg true [] [⟨some 18, .build [.int .i64 0, .int .i64 0, .int .i64 0, .sl none 0 0 0, .sl none 0 0 0, .bool false, .sl none 0 0 0] [], none, 0, []⟩,
    ⟨some 19, .fad 0 (.t 5), none, 1, []⟩,
    ⟨some 20, .load none (.t 19), none, 2, []⟩,
    ⟨none, .store 7 (.t 0) (.t 18), none, 3, [2]⟩,
    ⟨none, .store 1 (.t 1) (.c (.int .i64 0)), none, 4, [2]⟩,
    ⟨none, .store 1 (.t 2) (.c (.int .i64 0)), none, 5, [2]⟩,
    ⟨none, .store 1 (.t 3) (.t 20), none, 6, []⟩])))
  (.skip))))⟩

/-- burin/segment.Decode -/
def segment_Decode : AFun := ⟨2, 47, false, [.cell 4 (some 7), .cell 5 none, .cell 6 none, .cell 7 none],
  .seq (.reg false [0, 1, 4, 5, 6, 7] [⟨some 4, .alloc [.int .i64 0, .int .i64 0, .int .i64 0, .sl none 0 0 0, .sl none 0 0 0, .bool false, .sl none 0 0 0], none, 0, []⟩,
    ⟨some 5, .alloc [.int .i64 0], none, 0, []⟩,
    ⟨some 6, .alloc [.int .i64 0], none, 0, []⟩,
    ⟨some 7, .alloc [.int .i64 0], none, 0, []⟩])
  (.seq (.reg false [0, 1, 4, 5, 6, 7] [⟨some 10, .mkfn 162 [] [(.t 4), (.t 5), (.t 6), (.t 7)], none, 0, []⟩,
    ⟨none, .dfr (.t 10) [], none, 0, []⟩])
  (.seq (.seq (.reg false [0, 1, 4, 5, 6, 7, 18] [⟨some 11, .mv (.t 1), none, 0, []⟩,
    ⟨some 12, .bin .lss .num (.t 11) (.c (.int .i64 0)), none, 0, []⟩,
    ⟨some 13, .mv (.t 12), none, 0, []⟩,
    ⟨some 14, .mv (.t 1), some (13, false), 0, []⟩,
    ⟨some 15, .mv (.t 0), some (13, false), 0, []⟩,
    ⟨some 16, .len none (.t 15), some (13, false), 0, []⟩,
    ⟨some 17, .bin .gtr .num (.t 14) (.t 16), some (13, false), 0, []⟩,
    ⟨some 18, .pick (.t 13) (.c (.bool true)) (.t 17), none, 0, []⟩])
  (.cond (.t 18) (.seq (.reg false [4, 5, 6, 7] [⟨some 19, .build [.int .i64 0, .int .i64 0, .int .i64 0, .sl none 0 0 0, .sl none 0 0 0, .bool false, .sl none 0 0 0] [], none, 0, []⟩,
    ⟨none, .store 7 (.t 4) (.t 19), none, 0, []⟩,
    ⟨none, .store 1 (.t 5) (.c (.int .i64 0)), none, 0, []⟩,
    ⟨none, .store 1 (.t 6) (.c (.int .i64 0)), none, 0, []⟩,
    ⟨none, .store 1 (.t 7) (.c (.int .i64 163)), none, 0, []⟩])
  (.ret))
  (.skip)))
  (.seq (.reg false [1, 4, 5, 6, 7, 8] [⟨some 20, .mv (.t 0), none, 0, []⟩,
    ⟨some 21, .mv (.t 1), none, 0, []⟩,
    ⟨some 22, .mv (.t 0), none, 0, []⟩,
    ⟨some 23, .len none (.t 22), none, 0, []⟩,
    ⟨some 24, .mv (.t 1), none, 0, []⟩,
    ⟨some 25, .bin .add .num (.t 24) (.c (.int .i64 131136)), none, 0, []⟩,
    ⟨some 26, .mm false [(.t 23), (.t 25)], none, 0, []⟩,
    ⟨some 27, .slice 1 (.t 20) (some (.t 21)) (some (.t 26)) none, none, 0, []⟩,
    ⟨some 8, .mv (.t 27), none, 0, []⟩])
  (.seq (.reg false [1, 4, 5, 6, 7, 8, 9] [⟨some 28, .mv (.t 8), none, 0, []⟩,
    ⟨some 29, .call (.f 10) [(.t 28)], none, 0, []⟩,
    ⟨some 30, .build [.ptr none] [(0, 1, (.t 29))], none, 0, []⟩,
    ⟨some 9, .alloc [.ptr none], none, 0, []⟩,
    ⟨none, .store 1 (.t 9) (.t 30), none, 0, []⟩])
  (.seq (.reg false [1, 4, 5, 6, 7, 8, 9] [⟨some 32, .load (some 1) (.t 9), none, 0, []⟩,
    ⟨some 33, .call (.f 161) [(.t 32)], none, 0, []⟩,
    ⟨some 31, .mv (.t 33), none, 0, []⟩,
    ⟨some 34, .ext 0 (.t 31), none, 0, []⟩,
    ⟨some 35, .ext 1 (.t 31), none, 0, []⟩,
    ⟨none, .store 7 (.t 4) (.t 34), none, 0, []⟩,
    ⟨none, .store 1 (.t 5) (.t 35), none, 0, []⟩])
  (.seq (.reg true [4, 5, 6, 7] [⟨some 36, .load (some 7) (.t 4), none, 0, []⟩,
    ⟨some 37, .load none (.t 5), none, 1, []⟩,
    ⟨some 38, .mv (.t 1), none, 2, []⟩,
    ⟨some 39, .mv (.t 8), none, 3, []⟩,
    ⟨some 40, .len none (.t 39), none, 4, []⟩,
    ⟨some 41, .bin .add .num (.t 38) (.t 40), none, 5, []⟩,
    ⟨some 42, .fad 0 (.t 9), none, 6, []⟩,
    ⟨some 43, .load none (.t 42), none, 7, []⟩,
    ⟨some 44, .call (.f 11) [(.t 43)], none, 8, [0, 1]⟩,
    ⟨some 45, .bin .quo .num (.t 44) (.c (.int .i64 8)), none, 9, []⟩,
    ⟨some 46, .bin .sub .num (.t 41) (.t 45), none, 10, []⟩,
    ⟨none, .store 7 (.t 4) (.t 36), none, 11, [1]⟩,
    ⟨none, .store 1 (.t 5) (.t 37), none, 12, []⟩,
    ⟨none, .store 1 (.t 6) (.t 46), none, 13, []⟩,
    ⟨none, .store 1 (.t 7) (.c (.int .i64 0)), none, 14, []⟩])
  (.ret)))))))⟩

/-- burin/burinref0.EqSegment -/
def burinref0_EqSegment : AFun := ⟨2, 52, true, [.t 4],
  .seq (.reg false [2, 3] [⟨some 2, .box 7 (.t 0), none, 0, []⟩,
    ⟨some 3, .box 7 (.t 1), none, 0, []⟩,
    ⟨some 4, .mv (.c (.bool false)), none, 0, []⟩])
  (.seq (.reg false [4] [⟨some 5, .fad 0 (.t 2), none, 0, []⟩,
    ⟨some 6, .load none (.t 5), none, 0, []⟩,
    ⟨some 7, .fad 0 (.t 3), none, 0, []⟩,
    ⟨some 8, .load none (.t 7), none, 0, []⟩,
    ⟨some 9, .bin .eql .num (.t 6) (.t 8), none, 0, []⟩,
    ⟨some 10, .mv (.t 9), none, 0, []⟩,
    ⟨some 11, .fad 1 (.t 2), some (10, true), 0, []⟩,
    ⟨some 12, .load none (.t 11), some (10, true), 0, []⟩,
    ⟨some 13, .fad 1 (.t 3), some (10, true), 0, []⟩,
    ⟨some 14, .load none (.t 13), some (10, true), 0, []⟩,
    ⟨some 15, .bin .eql .num (.t 12) (.t 14), some (10, true), 0, []⟩,
    ⟨some 16, .pick (.t 10) (.t 15) (.c (.bool false)), none, 0, []⟩,
    ⟨some 17, .mv (.t 16), none, 0, []⟩,
    ⟨some 18, .fad 2 (.t 2), some (17, true), 0, []⟩,
    ⟨some 19, .load none (.t 18), some (17, true), 0, []⟩,
    ⟨some 20, .fad 2 (.t 3), some (17, true), 0, []⟩,
    ⟨some 21, .load none (.t 20), some (17, true), 0, []⟩,
    ⟨some 22, .bin .eql .num (.t 19) (.t 21), some (17, true), 0, []⟩,
    ⟨some 23, .pick (.t 17) (.t 22) (.c (.bool false)), none, 0, []⟩,
    ⟨some 24, .mv (.t 23), none, 0, []⟩,
    ⟨some 25, .fad 3 (.t 2), some (24, true), 0, []⟩,
    ⟨some 26, .load none (.t 25), some (24, true), 0, []⟩,
    ⟨some 27, .fad 3 (.t 3), some (24, true), 0, []⟩,
    ⟨some 28, .load none (.t 27), some (24, true), 0, []⟩,
    ⟨some 29, .call (.f 164) [(.t 26), (.t 28)], some (24, true), 0, []⟩,
    ⟨some 30, .pick (.t 24) (.t 29) (.c (.bool false)), none, 0, []⟩,
    ⟨some 31, .mv (.t 30), none, 0, []⟩,
    ⟨some 32, .fad 4 (.t 2), some (31, true), 0, []⟩,
    ⟨some 33, .load none (.t 32), some (31, true), 0, []⟩,
    ⟨some 34, .fad 4 (.t 3), some (31, true), 0, []⟩,
    ⟨some 35, .load none (.t 34), some (31, true), 0, []⟩,
    ⟨some 36, .call (.f 165) [(.t 33), (.t 35)], some (31, true), 0, []⟩,
    ⟨some 37, .pick (.t 31) (.t 36) (.c (.bool false)), none, 0, []⟩,
    ⟨some 38, .mv (.t 37), none, 0, []⟩,
    ⟨some 39, .fad 5 (.t 2), some (38, true), 0, []⟩,
    ⟨some 40, .load none (.t 39), some (38, true), 0, []⟩,
    ⟨some 41, .fad 5 (.t 3), some (38, true), 0, []⟩,
    ⟨some 42, .load none (.t 41), some (38, true), 0, []⟩,
    ⟨some 43, .bin .eql .bool (.t 40) (.t 42), some (38, true), 0, []⟩,
    ⟨some 44, .pick (.t 38) (.t 43) (.c (.bool false)), none, 0, []⟩,
    ⟨some 45, .mv (.t 44), none, 0, []⟩,
    ⟨some 46, .fad 6 (.t 2), some (45, true), 0, []⟩,
    ⟨some 47, .load none (.t 46), some (45, true), 0, []⟩,
    ⟨some 48, .fad 6 (.t 3), some (45, true), 0, []⟩,
    ⟨some 49, .load none (.t 48), some (45, true), 0, []⟩,
    ⟨some 50, .call (.f 26) [(.t 47), (.t 49)], some (45, true), 0, []⟩,
    ⟨some 51, .pick (.t 45) (.t 50) (.c (.bool false)), none, 0, []⟩,
    ⟨some 4, .mv (.t 51), none, 0, []⟩])
  (.ret))⟩

def burinref0_EqInts_l0 : Cd := .seq (.seq (.reg false [0, 1, 5, 14] [⟨some 11, .mv (.t 5), none, 0, []⟩,
    ⟨some 12, .mv (.t 0), none, 0, []⟩,
    ⟨some 13, .len none (.t 12), none, 0, []⟩,
    ⟨some 14, .bin .lss .num (.t 11) (.t 13), none, 0, []⟩])
  (.cond (.t 14) (.skip)
  (.exit 0)))
  (.seq (.block 1 (.seq (.reg true [0, 1, 5, 25] [⟨some 17, .mv (.t 0), none, 0, []⟩,
    ⟨some 18, .mv (.t 5), none, 1, []⟩,
    ⟨some 19, .iad none 1 (.t 17) (.t 18), none, 2, []⟩,
    ⟨some 20, .load none (.t 19), none, 3, []⟩,
    ⟨some 21, .mv (.t 1), none, 4, []⟩,
    ⟨some 22, .mv (.t 5), none, 5, []⟩,
    ⟨some 23, .iad none 1 (.t 21) (.t 22), none, 6, []⟩,
    ⟨some 24, .load none (.t 23), none, 7, []⟩,
    ⟨some 25, .bin .neq .num (.t 20) (.t 24), none, 8, []⟩])
  (.cond (.t 25) (.seq (.reg false [4] [⟨some 4, .mv (.c (.bool false)), none, 0, []⟩])
  (.ret))
  (.skip))))
  (.reg false [0, 1, 5] [⟨some 15, .mv (.t 5), none, 0, []⟩,
    ⟨some 16, .bin .add .num (.t 15) (.c (.int .i64 1)), none, 0, []⟩,
    ⟨some 5, .mv (.t 16), none, 0, []⟩]))
/-- burin/burinref0.EqInts -/
def burinref0_EqInts : AFun := ⟨2, 26, true, [.t 4],
  .seq (.reg false [0, 1] [⟨some 4, .mv (.c (.bool false)), none, 0, []⟩])
  (.seq (.seq (.reg false [0, 1, 10] [⟨some 6, .mv (.t 0), none, 0, []⟩,
    ⟨some 7, .len none (.t 6), none, 0, []⟩,
    ⟨some 8, .mv (.t 1), none, 0, []⟩,
    ⟨some 9, .len none (.t 8), none, 0, []⟩,
    ⟨some 10, .bin .neq .num (.t 7) (.t 9), none, 0, []⟩])
  (.cond (.t 10) (.seq (.reg false [4] [⟨some 4, .mv (.c (.bool false)), none, 0, []⟩])
  (.ret))
  (.skip)))
  (.seq (.seq (.reg false [0, 1, 5] [⟨some 5, .mv (.c (.int .i64 0)), none, 0, []⟩])
  (.block 0 (.loop [0, 1, 5] burinref0_EqInts_l0)))
  (.seq (.reg false [4] [⟨some 4, .mv (.c (.bool true)), none, 0, []⟩])
  (.ret))))⟩

def burinref0_EqFlags_l0 : Cd := .seq (.seq (.reg false [0, 1, 5, 14] [⟨some 11, .mv (.t 5), none, 0, []⟩,
    ⟨some 12, .mv (.t 0), none, 0, []⟩,
    ⟨some 13, .len none (.t 12), none, 0, []⟩,
    ⟨some 14, .bin .lss .num (.t 11) (.t 13), none, 0, []⟩])
  (.cond (.t 14) (.skip)
  (.exit 0)))
  (.seq (.block 1 (.seq (.reg true [0, 1, 5, 25] [⟨some 17, .mv (.t 0), none, 0, []⟩,
    ⟨some 18, .mv (.t 5), none, 1, []⟩,
    ⟨some 19, .iad none 1 (.t 17) (.t 18), none, 2, []⟩,
    ⟨some 20, .load none (.t 19), none, 3, []⟩,
    ⟨some 21, .mv (.t 1), none, 4, []⟩,
    ⟨some 22, .mv (.t 5), none, 5, []⟩,
    ⟨some 23, .iad none 1 (.t 21) (.t 22), none, 6, []⟩,
    ⟨some 24, .load none (.t 23), none, 7, []⟩,
    ⟨some 25, .bin .neq .bool (.t 20) (.t 24), none, 8, []⟩])
  (.cond (.t 25) (.seq (.reg false [4] [⟨some 4, .mv (.c (.bool false)), none, 0, []⟩])
  (.ret))
  (.skip))))
  (.reg false [0, 1, 5] [⟨some 15, .mv (.t 5), none, 0, []⟩,
    ⟨some 16, .bin .add .num (.t 15) (.c (.int .i64 1)), none, 0, []⟩,
    ⟨some 5, .mv (.t 16), none, 0, []⟩]))
/-- burin/burinref0.EqFlags -/
def burinref0_EqFlags : AFun := ⟨2, 26, true, [.t 4],
  .seq (.reg false [0, 1] [⟨some 4, .mv (.c (.bool false)), none, 0, []⟩])
  (.seq (.seq (.reg false [0, 1, 10] [⟨some 6, .mv (.t 0), none, 0, []⟩,
    ⟨some 7, .len none (.t 6), none, 0, []⟩,
    ⟨some 8, .mv (.t 1), none, 0, []⟩,
    ⟨some 9, .len none (.t 8), none, 0, []⟩,
    ⟨some 10, .bin .neq .num (.t 7) (.t 9), none, 0, []⟩])
  (.cond (.t 10) (.seq (.reg false [4] [⟨some 4, .mv (.c (.bool false)), none, 0, []⟩])
  (.ret))
  (.skip)))
  (.seq (.seq (.reg false [0, 1, 5] [⟨some 5, .mv (.c (.int .i64 0)), none, 0, []⟩])
  (.block 0 (.loop [0, 1, 5] burinref0_EqFlags_l0)))
  (.seq (.reg false [4] [⟨some 4, .mv (.c (.bool true)), none, 0, []⟩])
  (.ret))))⟩

/-- burin/burinlaw16.wakes -/
def burinlaw16_wakes : AFun := ⟨0, 58, true, [.t 0],
  .seq (.reg false [] [⟨some 0, .mv (.c (.bool false)), none, 0, []⟩])
  (.seq (.reg false [1] [⟨some 8, .bslice 1 [.int .i64 0] 2 [(0, (.c (.int .i64 0))), (1, (.c (.int .i64 2)))], none, 0, []⟩,
    ⟨some 9, .bslice 1 [.bool false] 2 [(0, (.c (.bool true))), (1, (.c (.bool false)))], none, 0, []⟩,
    ⟨some 10, .mkslice 1 1 [.int .u8 0] (.c (.int .i64 5)) (.c (.int .i64 5)), none, 0, []⟩,
    ⟨some 11, .build [.int .i64 0, .int .i64 0, .int .i64 0, .sl none 0 0 0, .sl none 0 0 0, .bool false, .sl none 0 0 0] [(0, 1, (.c (.int .i64 3))), (1, 1, (.c (.int .i64 3))), (2, 1, (.c (.int .i64 1))), (3, 1, (.t 8)), (4, 1, (.t 9)), (6, 1, (.t 10))], none, 0, []⟩,
    ⟨some 1, .alloc [.int .i64 0, .int .i64 0, .int .i64 0, .sl none 0 0 0, .sl none 0 0 0, .bool false, .sl none 0 0 0], none, 0, []⟩,
    ⟨none, .store 7 (.t 1) (.t 11), none, 0, []⟩])
  (.seq (.reg false [1, 2, 3] [⟨some 13, .load (some 7) (.t 1), none, 0, []⟩,
    ⟨some 14, .call (.f 156) [(.t 13)], none, 0, []⟩,
    ⟨some 12, .mv (.t 14), none, 0, []⟩,
    ⟨some 15, .ext 0 (.t 12), none, 0, []⟩,
    ⟨some 16, .ext 1 (.t 12), none, 0, []⟩,
    ⟨some 2, .mv (.t 15), none, 0, []⟩,
    ⟨some 3, .mv (.t 16), none, 0, []⟩])
  (.seq (.reg false [1, 2, 3, 4, 5, 6, 7] [⟨some 18, .mv (.t 2), none, 0, []⟩,
    ⟨some 19, .call (.f 163) [(.t 18), (.c (.int .i64 0))], none, 0, []⟩,
    ⟨some 17, .mv (.t 19), none, 0, []⟩,
    ⟨some 20, .ext 0 (.t 17), none, 0, []⟩,
    ⟨some 21, .ext 1 (.t 17), none, 0, []⟩,
    ⟨some 22, .ext 2 (.t 17), none, 0, []⟩,
    ⟨some 23, .ext 3 (.t 17), none, 0, []⟩,
    ⟨some 4, .alloc [.int .i64 0, .int .i64 0, .int .i64 0, .sl none 0 0 0, .sl none 0 0 0, .bool false, .sl none 0 0 0], none, 0, []⟩,
    ⟨none, .store 7 (.t 4) (.t 20), none, 0, []⟩,
    ⟨some 5, .mv (.t 21), none, 0, []⟩,
    ⟨some 6, .mv (.t 22), none, 0, []⟩,
    ⟨some 7, .mv (.t 23), none, 0, []⟩])
  (.seq (.reg false [0] [⟨some 24, .mv (.t 3), none, 0, []⟩,
    ⟨some 25, .bin .eql .num (.t 24) (.c (.int .i64 0)), none, 0, []⟩,
    ⟨some 26, .mv (.t 25), none, 0, []⟩,
    ⟨some 27, .mv (.t 7), some (26, true), 0, []⟩,
    ⟨some 28, .bin .eql .num (.t 27) (.c (.int .i64 0)), some (26, true), 0, []⟩,
    ⟨some 29, .pick (.t 26) (.t 28) (.c (.bool false)), none, 0, []⟩,
    ⟨some 30, .mv (.t 29), none, 0, []⟩,
    ⟨some 31, .mv (.t 2), some (30, true), 0, []⟩,
    ⟨some 32, .bslice 1 [.int .u8 0] 8 [(0, (.c (.int .u8 3))), (1, (.c (.int .u8 3))), (2, (.c (.int .u8 1))), (3, (.c (.int .u8 2))), (4, (.c (.int .u8 0))), (5, (.c (.int .u8 2))), (6, (.c (.int .u8 128))), (7, (.c (.int .u8 5)))], some (30, true), 0, []⟩,
    ⟨some 33, .call (.f 26) [(.t 31), (.t 32)], some (30, true), 0, []⟩,
    ⟨some 34, .pick (.t 30) (.t 33) (.c (.bool false)), none, 0, []⟩,
    ⟨some 35, .mv (.t 34), none, 0, []⟩,
    ⟨some 36, .mv (.t 5), some (35, true), 0, []⟩,
    ⟨some 37, .bin .eql .num (.t 36) (.c (.int .i64 5)), some (35, true), 0, []⟩,
    ⟨some 38, .pick (.t 35) (.t 37) (.c (.bool false)), none, 0, []⟩,
    ⟨some 39, .mv (.t 38), none, 0, []⟩,
    ⟨some 40, .mv (.t 6), some (39, true), 0, []⟩,
    ⟨some 41, .bin .eql .num (.t 40) (.c (.int .i64 8)), some (39, true), 0, []⟩,
    ⟨some 42, .pick (.t 39) (.t 41) (.c (.bool false)), none, 0, []⟩,
    ⟨some 43, .mv (.t 42), none, 0, []⟩,
    ⟨some 44, .fad 0 (.t 4), some (43, true), 0, []⟩,
    ⟨some 45, .load none (.t 44), some (43, true), 0, []⟩,
    ⟨some 46, .bin .eql .num (.t 45) (.c (.int .i64 3)), some (43, true), 0, []⟩,
    ⟨some 47, .pick (.t 43) (.t 46) (.c (.bool false)), none, 0, []⟩,
    ⟨some 48, .mv (.t 47), none, 0, []⟩,
    ⟨some 49, .fad 3 (.t 4), some (48, true), 0, []⟩,
    ⟨some 50, .load none (.t 49), some (48, true), 0, []⟩,
    ⟨some 51, .bslice 1 [.int .i64 0] 2 [(0, (.c (.int .i64 0))), (1, (.c (.int .i64 2)))], some (48, true), 0, []⟩,
    ⟨some 52, .call (.f 164) [(.t 50), (.t 51)], some (48, true), 0, []⟩,
    ⟨some 53, .pick (.t 48) (.t 52) (.c (.bool false)), none, 0, []⟩,
    ⟨some 54, .mv (.t 53), none, 0, []⟩,
    ⟨some 55, .load (some 7) (.t 1), some (54, true), 0, []⟩,
    ⟨some 56, .call (.f 154) [(.t 55)], some (54, true), 0, []⟩,
    ⟨some 57, .pick (.t 54) (.t 56) (.c (.bool false)), none, 0, []⟩,
    ⟨some 0, .mv (.t 57), none, 0, []⟩])
  (.ret)))))⟩

/-- A program that has them. -/
structure HasSeg (P : Prog) : Prop where
  h_segment_allowed : P 152 = some segment_allowed
  h_segment_rule_paged : P 153 = some segment_rule_paged
  h_segment_Check : P 154 = some segment_Check
  h_segment_flag : P 155 = some segment_flag
  h_segment_Encode : P 156 = some segment_Encode
  h_segment_wrong : P 157 = some segment_wrong
  h_segment_need : P 158 = some segment_need
  h_segment_reader_number : P 159 = some segment_reader_number
  h_segment_reader_flag : P 160 = some segment_reader_flag
  h_segment_reader_head : P 161 = some segment_reader_head
  h_segment_Decode_1 : P 162 = some segment_Decode_1
  h_segment_Decode : P 163 = some segment_Decode
  h_burinref0_EqSegment : P 166 = some burinref0_EqSegment
  h_burinref0_EqInts : P 164 = some burinref0_EqInts
  h_burinref0_EqFlags : P 165 = some burinref0_EqFlags
  h_burinlaw16_wakes : P 167 = some burinlaw16_wakes

end Go.Ab
