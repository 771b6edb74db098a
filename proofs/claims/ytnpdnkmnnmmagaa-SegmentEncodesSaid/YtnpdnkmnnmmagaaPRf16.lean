/- The texts of functions of the given program, for the abstract machine: written by wip/tools/gen.py out of Lean's print of the translation. Conditions: none; definitions alone. -/
import Derived.Test.YtnpdnkmnnmmagaaK4
set_option linter.all false
namespace Go.Ab
-- burinref16_refers: 168, parameters kind; loops 
-- burinref16_paged: 169, parameters kind; loops 
-- burinref16_May: 170, parameters ?; loops burinref16_May_l0 [1 ?, 5 ?]
-- burinref16_bit: 171, parameters ok; loops 
-- burinref16_Encode: 172, parameters ?; loops burinref16_Encode_l0 [1 ?, 4 ?, 5 ?, 6 ?]
-- burinref0_CopySegments: 174, parameters l; loops burinref0_CopySegments_l0 [0 l, 3 out, 4 i]
-- burinref0_CopyInts: 173, parameters a; loops 

/-- burin/burinref16.refers -/
def burinref16_refers : AFun := ⟨1, 9, true, [.t 2],
  .seq (.reg false [0] [⟨some 2, .mv (.c (.bool false)), none, 0, []⟩])
  (.seq (.reg false [2] [⟨some 3, .mv (.t 0), none, 0, []⟩,
    ⟨some 4, .bin .eql .num (.t 3) (.c (.int .i64 2)), none, 0, []⟩,
    ⟨some 5, .mv (.t 4), none, 0, []⟩,
    ⟨some 6, .mv (.t 0), some (5, false), 0, []⟩,
    ⟨some 7, .bin .eql .num (.t 6) (.c (.int .i64 3)), some (5, false), 0, []⟩,
    ⟨some 8, .pick (.t 5) (.c (.bool true)) (.t 7), none, 0, []⟩,
    ⟨some 2, .mv (.t 8), none, 0, []⟩])
  (.ret))⟩

/-- burin/burinref16.paged -/
def burinref16_paged : AFun := ⟨1, 9, true, [.t 2, .t 3],
  .seq (.reg false [0] [⟨some 2, .mv (.c (.int .i64 0)), none, 0, []⟩,
    ⟨some 3, .mv (.c (.int .i64 0)), none, 0, []⟩])
  (.seq (.seq (.reg false [4] [⟨some 4, .mv (.t 0), none, 0, []⟩])
  (.block 0 (.seq (.reg false [4, 5] [⟨some 6, .bin .eql .num (.t 4) (.c (.int .i64 2)), none, 0, []⟩,
    ⟨some 5, .mv (.t 6), none, 0, []⟩])
  (.cond (.t 5) (.seq (.reg false [2, 3] [⟨some 2, .mv (.c (.int .i64 0)), none, 0, []⟩,
    ⟨some 3, .mv (.c (.int .i64 64)), none, 0, []⟩])
  (.ret))
  (.seq (.reg false [7] [⟨some 8, .bin .eql .num (.t 4) (.c (.int .i64 7)), none, 0, []⟩,
    ⟨some 7, .mv (.t 8), none, 0, []⟩])
  (.cond (.t 7) (.seq (.reg false [2, 3] [⟨some 2, .mv (.c (.int .i64 0)), none, 0, []⟩,
    ⟨some 3, .mv (.c (.int .i64 0)), none, 0, []⟩])
  (.ret))
  (.skip)))))))
  (.seq (.reg false [2, 3] [⟨some 2, .mv (.c (.int .i64 1)), none, 0, []⟩,
    ⟨some 3, .mv (.c (.int .i64 64)), none, 0, []⟩])
  (.ret)))⟩

def burinref16_May_l0 : Cd := .seq (.seq (.reg false [1, 5, 80] [⟨some 76, .mv (.t 5), none, 0, []⟩,
    ⟨some 77, .fad 3 (.t 1), none, 0, []⟩,
    ⟨some 78, .load none (.t 77), none, 0, []⟩,
    ⟨some 79, .len none (.t 78), none, 0, []⟩,
    ⟨some 80, .bin .lss .num (.t 76) (.t 79), none, 0, []⟩])
  (.cond (.t 80) (.skip)
  (.exit 0)))
  (.seq (.block 1 (.seq (.reg true [1, 5, 116] [⟨some 83, .fad 3 (.t 1), none, 0, []⟩,
    ⟨some 84, .load none (.t 83), none, 1, []⟩,
    ⟨some 85, .mv (.t 5), none, 2, []⟩,
    ⟨some 86, .iad none 1 (.t 84) (.t 85), none, 3, []⟩,
    ⟨some 87, .load none (.t 86), none, 4, []⟩,
    ⟨some 88, .bin .lss .num (.t 87) (.c (.int .i64 0)), none, 5, []⟩,
    ⟨some 89, .mv (.t 88), none, 6, []⟩,
    ⟨some 90, .fad 3 (.t 1), some (89, false), 7, []⟩,
    ⟨some 91, .load none (.t 90), some (89, false), 8, []⟩,
    ⟨some 92, .mv (.t 5), some (89, false), 9, []⟩,
    ⟨some 93, .iad none 1 (.t 91) (.t 92), some (89, false), 10, []⟩,
    ⟨some 94, .load none (.t 93), some (89, false), 11, []⟩,
    ⟨some 95, .fad 0 (.t 1), some (89, false), 12, []⟩,
    ⟨some 96, .load none (.t 95), some (89, false), 13, []⟩,
    ⟨some 97, .bin .geq .num (.t 94) (.t 96), some (89, false), 14, []⟩,
    ⟨some 98, .pick (.t 89) (.c (.bool true)) (.t 97), none, 15, []⟩,
    ⟨some 99, .mv (.t 98), none, 16, []⟩,
    ⟨some 100, .mv (.t 5), some (99, false), 17, []⟩,
    ⟨some 101, .bin .gtr .num (.t 100) (.c (.int .i64 0)), some (99, false), 18, []⟩,
    ⟨some 102, .mv (.t 101), some (99, false), 19, []⟩,
    ⟨some 103, .fad 3 (.t 1), some (102, true), 20, []⟩,
    ⟨some 104, .load none (.t 103), some (102, true), 21, []⟩,
    ⟨some 105, .mv (.t 5), some (102, true), 22, []⟩,
    ⟨some 106, .iad none 1 (.t 104) (.t 105), some (102, true), 23, []⟩,
    ⟨some 107, .load none (.t 106), some (102, true), 24, []⟩,
    ⟨some 108, .fad 3 (.t 1), some (102, true), 25, []⟩,
    ⟨some 109, .load none (.t 108), some (102, true), 26, []⟩,
    ⟨some 110, .mv (.t 5), some (102, true), 27, []⟩,
    ⟨some 111, .bin .sub .num (.t 110) (.c (.int .i64 1)), some (102, true), 28, []⟩,
    ⟨some 112, .iad none 1 (.t 109) (.t 111), some (102, true), 29, []⟩,
    ⟨some 113, .load none (.t 112), some (102, true), 30, []⟩,
    ⟨some 114, .bin .leq .num (.t 107) (.t 113), some (102, true), 31, []⟩,
    ⟨some 115, .pick (.t 102) (.t 114) (.c (.bool false)), some (99, false), 32, []⟩,
    ⟨some 116, .pick (.t 99) (.c (.bool true)) (.t 115), none, 33, []⟩])
  (.cond (.t 116) (.seq (.reg false [2] [⟨some 2, .mv (.c (.bool false)), none, 0, []⟩])
  (.ret))
  (.skip))))
  (.reg false [1, 5] [⟨some 81, .mv (.t 5), none, 0, []⟩,
    ⟨some 82, .bin .add .num (.t 81) (.c (.int .i64 1)), none, 0, []⟩,
    ⟨some 5, .mv (.t 82), none, 0, []⟩]))
/-- burin/burinref16.May -/
def burinref16_May : AFun := ⟨1, 131, true, [.t 2],
  .seq (.reg false [1] [⟨some 1, .box 7 (.t 0), none, 0, []⟩,
    ⟨some 2, .mv (.c (.bool false)), none, 0, []⟩])
  (.seq (.seq (.reg false [1, 23] [⟨some 6, .fad 0 (.t 1), none, 0, []⟩,
    ⟨some 7, .load none (.t 6), none, 0, []⟩,
    ⟨some 8, .bin .lss .num (.t 7) (.c (.int .i64 0)), none, 0, []⟩,
    ⟨some 9, .mv (.t 8), none, 0, []⟩,
    ⟨some 10, .fad 0 (.t 1), some (9, false), 0, []⟩,
    ⟨some 11, .load none (.t 10), some (9, false), 0, []⟩,
    ⟨some 12, .bin .geq .num (.t 11) (.c (.int .i64 32768)), some (9, false), 0, []⟩,
    ⟨some 13, .pick (.t 9) (.c (.bool true)) (.t 12), none, 0, []⟩,
    ⟨some 14, .mv (.t 13), none, 0, []⟩,
    ⟨some 15, .fad 1 (.t 1), some (14, false), 0, []⟩,
    ⟨some 16, .load none (.t 15), some (14, false), 0, []⟩,
    ⟨some 17, .bin .lss .num (.t 16) (.c (.int .i64 1)), some (14, false), 0, []⟩,
    ⟨some 18, .pick (.t 14) (.c (.bool true)) (.t 17), none, 0, []⟩,
    ⟨some 19, .mv (.t 18), none, 0, []⟩,
    ⟨some 20, .fad 1 (.t 1), some (19, false), 0, []⟩,
    ⟨some 21, .load none (.t 20), some (19, false), 0, []⟩,
    ⟨some 22, .bin .gtr .num (.t 21) (.c (.int .i64 7)), some (19, false), 0, []⟩,
    ⟨some 23, .pick (.t 19) (.c (.bool true)) (.t 22), none, 0, []⟩])
  (.cond (.t 23) (.seq (.reg false [2] [⟨some 2, .mv (.c (.bool false)), none, 0, []⟩])
  (.ret))
  (.skip)))
  (.seq (.reg false [1, 3, 4] [⟨some 25, .fad 1 (.t 1), none, 0, []⟩,
    ⟨some 26, .load none (.t 25), none, 0, []⟩,
    ⟨some 27, .call (.f 169) [(.t 26)], none, 0, []⟩,
    ⟨some 24, .mv (.t 27), none, 0, []⟩,
    ⟨some 28, .ext 0 (.t 24), none, 0, []⟩,
    ⟨some 29, .ext 1 (.t 24), none, 0, []⟩,
    ⟨some 3, .mv (.t 28), none, 0, []⟩,
    ⟨some 4, .mv (.t 29), none, 0, []⟩])
  (.seq (.seq (.reg false [1, 75] [⟨some 30, .fad 2 (.t 1), none, 0, []⟩,
    ⟨some 31, .load none (.t 30), none, 0, []⟩,
    ⟨some 32, .mv (.t 3), none, 0, []⟩,
    ⟨some 33, .bin .lss .num (.t 31) (.t 32), none, 0, []⟩,
    ⟨some 34, .mv (.t 33), none, 0, []⟩,
    ⟨some 35, .fad 2 (.t 1), some (34, false), 0, []⟩,
    ⟨some 36, .load none (.t 35), some (34, false), 0, []⟩,
    ⟨some 37, .mv (.t 4), some (34, false), 0, []⟩,
    ⟨some 38, .bin .gtr .num (.t 36) (.t 37), some (34, false), 0, []⟩,
    ⟨some 39, .pick (.t 34) (.c (.bool true)) (.t 38), none, 0, []⟩,
    ⟨some 40, .mv (.t 39), none, 0, []⟩,
    ⟨some 41, .fad 3 (.t 1), some (40, false), 0, []⟩,
    ⟨some 42, .load none (.t 41), some (40, false), 0, []⟩,
    ⟨some 43, .len none (.t 42), some (40, false), 0, []⟩,
    ⟨some 44, .bin .gtr .num (.t 43) (.c (.int .i64 0)), some (40, false), 0, []⟩,
    ⟨some 45, .mv (.t 44), some (40, false), 0, []⟩,
    ⟨some 46, .fad 1 (.t 1), some (45, true), 0, []⟩,
    ⟨some 47, .load none (.t 46), some (45, true), 0, []⟩,
    ⟨some 48, .call (.f 168) [(.t 47)], some (45, true), 0, []⟩,
    ⟨some 49, .un .not (.t 48), some (45, true), 0, []⟩,
    ⟨some 50, .pick (.t 45) (.t 49) (.c (.bool false)), some (40, false), 0, []⟩,
    ⟨some 51, .pick (.t 40) (.c (.bool true)) (.t 50), none, 0, []⟩,
    ⟨some 52, .mv (.t 51), none, 0, []⟩,
    ⟨some 53, .fad 4 (.t 1), some (52, false), 0, []⟩,
    ⟨some 54, .load none (.t 53), some (52, false), 0, []⟩,
    ⟨some 55, .len none (.t 54), some (52, false), 0, []⟩,
    ⟨some 56, .fad 3 (.t 1), some (52, false), 0, []⟩,
    ⟨some 57, .load none (.t 56), some (52, false), 0, []⟩,
    ⟨some 58, .len none (.t 57), some (52, false), 0, []⟩,
    ⟨some 59, .bin .neq .num (.t 55) (.t 58), some (52, false), 0, []⟩,
    ⟨some 60, .pick (.t 52) (.c (.bool true)) (.t 59), none, 0, []⟩,
    ⟨some 61, .mv (.t 60), none, 0, []⟩,
    ⟨some 62, .fad 5 (.t 1), some (61, false), 0, []⟩,
    ⟨some 63, .load none (.t 62), some (61, false), 0, []⟩,
    ⟨some 64, .mv (.t 63), some (61, false), 0, []⟩,
    ⟨some 65, .fad 1 (.t 1), some (64, true), 0, []⟩,
    ⟨some 66, .load none (.t 65), some (64, true), 0, []⟩,
    ⟨some 67, .bin .neq .num (.t 66) (.c (.int .i64 2)), some (64, true), 0, []⟩,
    ⟨some 68, .pick (.t 64) (.t 67) (.c (.bool false)), some (61, false), 0, []⟩,
    ⟨some 69, .pick (.t 61) (.c (.bool true)) (.t 68), none, 0, []⟩,
    ⟨some 70, .mv (.t 69), none, 0, []⟩,
    ⟨some 71, .fad 6 (.t 1), some (70, false), 0, []⟩,
    ⟨some 72, .load none (.t 71), some (70, false), 0, []⟩,
    ⟨some 73, .len none (.t 72), some (70, false), 0, []⟩,
    ⟨some 74, .bin .gtr .num (.t 73) (.c (.int .i64 67108864)), some (70, false), 0, []⟩,
    ⟨some 75, .pick (.t 70) (.c (.bool true)) (.t 74), none, 0, []⟩])
  (.cond (.t 75) (.seq (.reg false [2] [⟨some 2, .mv (.c (.bool false)), none, 0, []⟩])
  (.ret))
  (.skip)))
  (.seq (.seq (.reg false [1, 5] [⟨some 5, .mv (.c (.int .i64 0)), none, 0, []⟩])
  (.block 0 (.loop [1, 5] burinref16_May_l0)))
  (.seq (.reg false [2] [⟨some 117, .fad 1 (.t 1), none, 0, []⟩,
    ⟨some 118, .load none (.t 117), none, 0, []⟩,
    ⟨some 119, .bin .neq .num (.t 118) (.c (.int .i64 6)), none, 0, []⟩,
    ⟨some 120, .mv (.t 119), none, 0, []⟩,
    ⟨some 121, .fad 1 (.t 1), some (120, true), 0, []⟩,
    ⟨some 122, .load none (.t 121), some (120, true), 0, []⟩,
    ⟨some 123, .bin .neq .num (.t 122) (.c (.int .i64 7)), some (120, true), 0, []⟩,
    ⟨some 124, .pick (.t 120) (.t 123) (.c (.bool false)), none, 0, []⟩,
    ⟨some 125, .mv (.t 124), none, 0, []⟩,
    ⟨some 126, .fad 6 (.t 1), some (125, false), 0, []⟩,
    ⟨some 127, .load none (.t 126), some (125, false), 0, []⟩,
    ⟨some 128, .len none (.t 127), some (125, false), 0, []⟩,
    ⟨some 129, .bin .eql .num (.t 128) (.c (.int .i64 0)), some (125, false), 0, []⟩,
    ⟨some 130, .pick (.t 125) (.c (.bool true)) (.t 129), none, 0, []⟩,
    ⟨some 2, .mv (.t 130), none, 0, []⟩])
  (.ret))))))⟩

/-- burin/burinref16.bit -/
def burinref16_bit : AFun := ⟨1, 4, true, [.t 2],
  .seq (.reg false [0] [⟨some 2, .mv (.c (.int .u64 0)), none, 0, []⟩])
  (.seq (.seq (.reg false [3] [⟨some 3, .mv (.t 0), none, 0, []⟩])
  (.cond (.t 3) (.seq (.reg false [2] [⟨some 2, .mv (.c (.int .u64 1)), none, 0, []⟩])
  (.ret))
  (.skip)))
  (.seq (.reg false [2] [⟨some 2, .mv (.c (.int .u64 0)), none, 0, []⟩])
  (.ret)))⟩

def burinref16_Encode_l0 : Cd := .seq (.seq (.reg false [1, 4, 5, 6, 38] [⟨some 34, .mv (.t 6), none, 0, []⟩,
    ⟨some 35, .fad 3 (.t 1), none, 0, []⟩,
    ⟨some 36, .load none (.t 35), none, 0, []⟩,
    ⟨some 37, .len none (.t 36), none, 0, []⟩,
    ⟨some 38, .bin .lss .num (.t 34) (.t 37), none, 0, []⟩])
  (.cond (.t 38) (.skip)
  (.exit 0)))
  (.seq (.block 1 (.seq (.reg false [1, 4, 5, 6] [⟨some 41, .mv (.t 4), none, 0, []⟩,
    ⟨some 42, .fad 3 (.t 1), none, 0, []⟩,
    ⟨some 43, .load none (.t 42), none, 0, []⟩,
    ⟨some 44, .mv (.t 6), none, 0, []⟩,
    ⟨some 45, .iad none 1 (.t 43) (.t 44), none, 0, []⟩,
    ⟨some 46, .load none (.t 45), none, 0, []⟩,
    ⟨some 47, .conv .u64 (.t 46), none, 0, []⟩,
    ⟨some 48, .call (.f 18) [(.t 47)], none, 0, []⟩,
    ⟨some 49, .append 1 1 (.t 41) (.t 48), none, 0, []⟩,
    ⟨some 4, .mv (.t 49), none, 0, []⟩])
  (.reg false [1, 4, 5, 6] [⟨some 50, .mv (.t 5), none, 0, []⟩,
    ⟨some 51, .fad 4 (.t 1), none, 0, []⟩,
    ⟨some 52, .load none (.t 51), none, 0, []⟩,
    ⟨some 53, .mv (.t 6), none, 0, []⟩,
    ⟨some 54, .iad none 1 (.t 52) (.t 53), none, 0, []⟩,
    ⟨some 55, .load none (.t 54), none, 0, []⟩,
    ⟨some 56, .call (.f 171) [(.t 55)], none, 0, []⟩,
    ⟨some 57, .call (.f 17) [(.t 50), (.t 56), (.c (.int .i64 1))], none, 0, []⟩])))
  (.reg false [1, 4, 5, 6] [⟨some 39, .mv (.t 6), none, 0, []⟩,
    ⟨some 40, .bin .add .num (.t 39) (.c (.int .i64 1)), none, 0, []⟩,
    ⟨some 6, .mv (.t 40), none, 0, []⟩]))
/-- burin/burinref16.Encode -/
def burinref16_Encode : AFun := ⟨1, 74, true, [.t 2, .t 3],
  .seq (.reg false [1] [⟨some 1, .box 7 (.t 0), none, 0, []⟩,
    ⟨some 2, .mv (.c (.sl none 0 0 0)), none, 0, []⟩,
    ⟨some 3, .mv (.c (.int .i64 0)), none, 0, []⟩])
  (.seq (.seq (.reg false [1, 9] [⟨some 7, .load (some 7) (.t 1), none, 0, []⟩,
    ⟨some 8, .call (.f 170) [(.t 7)], none, 0, []⟩,
    ⟨some 9, .un .not (.t 8), none, 0, []⟩])
  (.cond (.t 9) (.seq (.reg false [2, 3] [⟨some 2, .mv (.c (.sl none 0 0 0)), none, 0, []⟩,
    ⟨some 3, .mv (.c (.int .i64 161)), none, 0, []⟩])
  (.ret))
  (.skip)))
  (.seq (.reg true [1, 4] [⟨some 10, .fad 0 (.t 1), none, 0, []⟩,
    ⟨some 11, .load none (.t 10), none, 1, []⟩,
    ⟨some 12, .conv .u64 (.t 11), none, 2, []⟩,
    ⟨some 14, .fad 1 (.t 1), none, 4, []⟩,
    ⟨some 15, .load none (.t 14), none, 5, []⟩,
    ⟨some 16, .conv .u8 (.t 15), none, 6, []⟩,
    ⟨some 17, .bslice 1 [.int .u8 0] 1 [(0, (.t 16))], none, 7, []⟩,
    ⟨some 13, .call (.f 18) [(.t 12)], none, 3, [5, 7]⟩,
    ⟨some 18, .append 1 1 (.t 13) (.t 17), none, 8, []⟩,
    ⟨some 4, .mv (.t 18), none, 9, []⟩])
  (.seq (.reg false [1, 4] [⟨some 19, .mv (.t 4), none, 0, []⟩,
    ⟨some 20, .fad 2 (.t 1), none, 0, []⟩,
    ⟨some 21, .load none (.t 20), none, 0, []⟩,
    ⟨some 22, .conv .u64 (.t 21), none, 0, []⟩,
    ⟨some 23, .call (.f 18) [(.t 22)], none, 0, []⟩,
    ⟨some 24, .append 1 1 (.t 19) (.t 23), none, 0, []⟩,
    ⟨some 4, .mv (.t 24), none, 0, []⟩])
  (.seq (.reg false [1, 4] [⟨some 25, .mv (.t 4), none, 0, []⟩,
    ⟨some 26, .fad 3 (.t 1), none, 0, []⟩,
    ⟨some 27, .load none (.t 26), none, 0, []⟩,
    ⟨some 28, .len none (.t 27), none, 0, []⟩,
    ⟨some 29, .conv .u64 (.t 28), none, 0, []⟩,
    ⟨some 30, .call (.f 18) [(.t 29)], none, 0, []⟩,
    ⟨some 31, .append 1 1 (.t 25) (.t 30), none, 0, []⟩,
    ⟨some 4, .mv (.t 31), none, 0, []⟩])
  (.seq (.reg false [1, 4, 5] [⟨some 32, .build [.int .i64 0, .sl none 0 0 0] [(0, 1, (.c (.int .i64 67108864)))], none, 0, []⟩,
    ⟨some 33, .box 2 (.t 32), none, 0, []⟩,
    ⟨some 5, .mv (.t 33), none, 0, []⟩])
  (.seq (.seq (.reg false [1, 4, 5, 6] [⟨some 6, .mv (.c (.int .i64 0)), none, 0, []⟩])
  (.block 0 (.loop [1, 4, 5, 6] burinref16_Encode_l0)))
  (.seq (.reg false [1, 4, 5] [⟨some 58, .mv (.t 5), none, 0, []⟩,
    ⟨some 59, .fad 5 (.t 1), none, 0, []⟩,
    ⟨some 60, .load none (.t 59), none, 0, []⟩,
    ⟨some 61, .call (.f 171) [(.t 60)], none, 0, []⟩,
    ⟨some 62, .call (.f 17) [(.t 58), (.t 61), (.c (.int .i64 1))], none, 0, []⟩])
  (.seq (.reg false [1, 4] [⟨some 63, .mv (.t 4), none, 0, []⟩,
    ⟨some 64, .mv (.t 5), none, 0, []⟩,
    ⟨some 65, .call (.f 21) [(.t 64)], none, 0, []⟩,
    ⟨some 66, .append 1 1 (.t 63) (.t 65), none, 0, []⟩,
    ⟨some 4, .mv (.t 66), none, 0, []⟩])
  (.seq (.reg false [2, 3] [⟨some 67, .mv (.t 4), none, 0, []⟩,
    ⟨some 68, .fad 6 (.t 1), none, 0, []⟩,
    ⟨some 69, .load none (.t 68), none, 0, []⟩,
    ⟨some 70, .len none (.t 69), none, 0, []⟩,
    ⟨some 71, .conv .u64 (.t 70), none, 0, []⟩,
    ⟨some 72, .call (.f 18) [(.t 71)], none, 0, []⟩,
    ⟨some 73, .append 1 1 (.t 67) (.t 72), none, 0, []⟩,
    ⟨some 2, .mv (.t 73), none, 0, []⟩,
    ⟨some 3, .mv (.c (.int .i64 0)), none, 0, []⟩])
  (.ret))))))))))⟩

def burinref0_CopySegments_l0 : Cd := .seq (.seq (.reg false [0, 3, 4, 10] [⟨some 7, .mv (.t 4), none, 0, []⟩,
    ⟨some 8, .mv (.t 0), none, 0, []⟩,
    ⟨some 9, .len none (.t 8), none, 0, []⟩,
    ⟨some 10, .bin .lss .num (.t 7) (.t 9), none, 0, []⟩])
  (.cond (.t 10) (.skip)
  (.exit 0)))
  (.seq (.block 1 (.seq (.reg false [0, 3, 4, 5] [⟨some 13, .mv (.t 0), none, 0, []⟩,
    ⟨some 14, .mv (.t 4), none, 0, []⟩,
    ⟨some 15, .iad none 7 (.t 13) (.t 14), none, 0, []⟩,
    ⟨some 16, .load (some 7) (.t 15), none, 0, []⟩,
    ⟨some 5, .alloc [.int .i64 0, .int .i64 0, .int .i64 0, .sl none 0 0 0, .sl none 0 0 0, .bool false, .sl none 0 0 0], none, 0, []⟩,
    ⟨none, .store 7 (.t 5) (.t 16), none, 0, []⟩])
  (.seq (.reg false [0, 3, 4, 5, 6] [⟨some 6, .mv (.c (.sl none 0 0 0)), none, 0, []⟩])
  (.seq (.reg false [0, 3, 4, 5, 6] [⟨some 17, .fad 3 (.t 5), none, 0, []⟩,
    ⟨some 18, .load none (.t 17), none, 0, []⟩,
    ⟨some 19, .call (.f 173) [(.t 18)], none, 0, []⟩,
    ⟨some 20, .fad 3 (.t 5), none, 0, []⟩,
    ⟨none, .store 1 (.t 20) (.t 19), none, 0, []⟩])
  (.seq (.reg false [0, 3, 4, 5] [⟨some 21, .mv (.t 6), none, 0, []⟩,
    ⟨some 22, .fad 4 (.t 5), none, 0, []⟩,
    ⟨some 23, .load none (.t 22), none, 0, []⟩,
    ⟨some 24, .append 1 1 (.t 21) (.t 23), none, 0, []⟩,
    ⟨some 25, .fad 4 (.t 5), none, 0, []⟩,
    ⟨none, .store 1 (.t 25) (.t 24), none, 0, []⟩])
  (.seq (.reg false [0, 3, 4, 5] [⟨some 26, .fad 6 (.t 5), none, 0, []⟩,
    ⟨some 27, .load none (.t 26), none, 0, []⟩,
    ⟨some 28, .call (.f 27) [(.t 27)], none, 0, []⟩,
    ⟨some 29, .fad 6 (.t 5), none, 0, []⟩,
    ⟨none, .store 1 (.t 29) (.t 28), none, 0, []⟩])
  (.reg false [0, 3, 4] [⟨some 30, .mv (.t 3), none, 0, []⟩,
    ⟨some 31, .load (some 7) (.t 5), none, 0, []⟩,
    ⟨some 32, .bslice 7 [.int .i64 0, .int .i64 0, .int .i64 0, .sl none 0 0 0, .sl none 0 0 0, .bool false, .sl none 0 0 0] 1 [(0, (.t 31))], none, 0, []⟩,
    ⟨some 33, .append 7 104 (.t 30) (.t 32), none, 0, []⟩,
    ⟨some 3, .mv (.t 33), none, 0, []⟩])))))))
  (.reg false [0, 3, 4] [⟨some 11, .mv (.t 4), none, 0, []⟩,
    ⟨some 12, .bin .add .num (.t 11) (.c (.int .i64 1)), none, 0, []⟩,
    ⟨some 4, .mv (.t 12), none, 0, []⟩]))
/-- burin/burinref0.CopySegments -/
def burinref0_CopySegments : AFun := ⟨1, 35, true, [.t 2],
  .seq (.reg false [0] [⟨some 2, .mv (.c (.sl none 0 0 0)), none, 0, []⟩])
  (.seq (.reg false [0, 3] [⟨some 3, .mv (.c (.sl none 0 0 0)), none, 0, []⟩])
  (.seq (.seq (.reg false [0, 3, 4] [⟨some 4, .mv (.c (.int .i64 0)), none, 0, []⟩])
  (.block 0 (.loop [0, 3, 4] burinref0_CopySegments_l0)))
  (.seq (.reg false [2] [⟨some 34, .mv (.t 3), none, 0, []⟩,
    ⟨some 2, .mv (.t 34), none, 0, []⟩])
  (.ret))))⟩

/-- burin/burinref0.CopyInts -/
def burinref0_CopyInts : AFun := ⟨1, 7, true, [.t 2],
  .seq (.reg false [0] [⟨some 2, .mv (.c (.sl none 0 0 0)), none, 0, []⟩])
  (.seq (.reg false [0, 3] [⟨some 3, .mv (.c (.sl none 0 0 0)), none, 0, []⟩])
  (.seq (.reg false [2] [⟨some 4, .mv (.t 3), none, 0, []⟩,
    ⟨some 5, .mv (.t 0), none, 0, []⟩,
    ⟨some 6, .append 1 8 (.t 4) (.t 5), none, 0, []⟩,
    ⟨some 2, .mv (.t 6), none, 0, []⟩])
  (.ret)))⟩

/-- A program that has them. -/
structure HasRf16 (P : Prog) : Prop where
  h_burinref16_refers : P 168 = some burinref16_refers
  h_burinref16_paged : P 169 = some burinref16_paged
  h_burinref16_May : P 170 = some burinref16_May
  h_burinref16_bit : P 171 = some burinref16_bit
  h_burinref16_Encode : P 172 = some burinref16_Encode
  h_burinref0_CopySegments : P 174 = some burinref0_CopySegments
  h_burinref0_CopyInts : P 173 = some burinref0_CopyInts

end Go.Ab
