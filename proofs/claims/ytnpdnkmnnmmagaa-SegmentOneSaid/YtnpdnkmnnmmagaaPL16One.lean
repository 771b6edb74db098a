/- The texts of functions of the given program, for the abstract machine: written by wip/tools/gen.py out of Lean's print of the translation. Conditions: none; definitions alone. -/
import Derived.Test.YtnpdnkmnnmmagaaK4
set_option linter.all false
namespace Go.Ab
-- burinlaw16_SegmentOne: 177, parameters ?; loops burinlaw16_SegmentOne_l0 [0 ?, 3 ?]

def burinlaw16_SegmentOne_l0 : Cd := .seq (.seq (.reg false [0, 3, 17] [⟨some 10, .mv (.t 3), none, 0, []⟩,
    ⟨some 11, .mv (.t 0), none, 0, []⟩,
    ⟨some 12, .len none (.t 11), none, 0, []⟩,
    ⟨some 13, .bin .lss .num (.t 10) (.t 12), none, 0, []⟩,
    ⟨some 14, .mv (.t 13), none, 0, []⟩,
    ⟨some 15, .mv (.t 3), some (14, true), 0, []⟩,
    ⟨some 16, .bin .lss .num (.t 15) (.c (.int .i64 10)), some (14, true), 0, []⟩,
    ⟨some 17, .pick (.t 14) (.t 16) (.c (.bool false)), none, 0, []⟩])
  (.cond (.t 17) (.skip)
  (.exit 0)))
  (.seq (.block 1 (.seq (.seq (.reg false [0, 3, 26] [⟨some 20, .mv (.t 0), none, 0, []⟩,
    ⟨some 21, .mv (.t 3), none, 0, []⟩,
    ⟨some 22, .iad none 2 (.t 20) (.t 21), none, 0, []⟩,
    ⟨some 23, .fad 0 (.t 22), none, 0, []⟩,
    ⟨some 24, .load none (.t 23), none, 0, []⟩,
    ⟨some 25, .len none (.t 24), none, 0, []⟩,
    ⟨some 26, .bin .gtr .num (.t 25) (.c (.int .i64 20000)), none, 0, []⟩])
  (.cond (.t 26) (.exit 1)
  (.skip)))
  (.seq (.reg true [0, 3, 4, 5, 6, 7] [⟨some 28, .mv (.t 0), none, 0, []⟩,
    ⟨some 29, .mv (.t 3), none, 1, []⟩,
    ⟨some 30, .iad none 2 (.t 28) (.t 29), none, 2, []⟩,
    ⟨some 31, .fad 0 (.t 30), none, 3, []⟩,
    ⟨some 32, .load none (.t 31), none, 4, []⟩,
    ⟨some 33, .mv (.t 0), none, 5, []⟩,
    ⟨some 34, .mv (.t 3), none, 6, []⟩,
    ⟨some 35, .iad none 2 (.t 33) (.t 34), none, 7, []⟩,
    ⟨some 36, .fad 1 (.t 35), none, 8, []⟩,
    ⟨some 37, .load none (.t 36), none, 9, []⟩,
    ⟨some 4, .alloc [.int .i64 0, .int .i64 0, .int .i64 0, .sl none 0 0 0, .sl none 0 0 0, .bool false, .sl none 0 0 0], none, 16, []⟩,
    ⟨some 38, .call (.f 163) [(.t 32), (.t 37)], none, 10, [16]⟩,
    ⟨some 27, .mv (.t 38), none, 11, []⟩,
    ⟨some 39, .ext 0 (.t 27), none, 12, []⟩,
    ⟨some 40, .ext 1 (.t 27), none, 13, []⟩,
    ⟨some 41, .ext 2 (.t 27), none, 14, []⟩,
    ⟨some 42, .ext 3 (.t 27), none, 15, []⟩,
    ⟨none, .store 7 (.t 4) (.t 39), none, 17, []⟩,
    ⟨some 5, .mv (.t 40), none, 18, []⟩,
    ⟨some 6, .mv (.t 41), none, 19, []⟩,
    ⟨some 7, .mv (.t 42), none, 20, []⟩])
  (.seq (.seq (.reg false [0, 3, 4, 5, 6, 7, 44] [⟨some 43, .mv (.t 7), none, 0, []⟩,
    ⟨some 44, .bin .neq .num (.t 43) (.c (.int .i64 0)), none, 0, []⟩])
  (.cond (.t 44) (.seq (.seq (.reg false [0, 3, 58] [⟨some 45, .mv (.t 7), none, 0, []⟩,
    ⟨some 46, .bin .neq .num (.t 45) (.c (.int .i64 163)), none, 0, []⟩,
    ⟨some 47, .mv (.t 46), none, 0, []⟩,
    ⟨some 48, .mv (.t 7), some (47, true), 0, []⟩,
    ⟨some 49, .bin .neq .num (.t 48) (.c (.int .i64 161)), some (47, true), 0, []⟩,
    ⟨some 50, .pick (.t 47) (.t 49) (.c (.bool false)), none, 0, []⟩,
    ⟨some 51, .mv (.t 50), none, 0, []⟩,
    ⟨some 52, .mv (.t 5), some (51, false), 0, []⟩,
    ⟨some 53, .bin .neq .num (.t 52) (.c (.int .i64 0)), some (51, false), 0, []⟩,
    ⟨some 54, .pick (.t 51) (.c (.bool true)) (.t 53), none, 0, []⟩,
    ⟨some 55, .mv (.t 54), none, 0, []⟩,
    ⟨some 56, .mv (.t 6), some (55, false), 0, []⟩,
    ⟨some 57, .bin .neq .num (.t 56) (.c (.int .i64 0)), some (55, false), 0, []⟩,
    ⟨some 58, .pick (.t 55) (.c (.bool true)) (.t 57), none, 0, []⟩])
  (.cond (.t 58) (.seq (.reg false [2] [⟨some 2, .mv (.c (.bool false)), none, 0, []⟩])
  (.ret))
  (.skip)))
  (.exit 1))
  (.skip)))
  (.seq (.seq (.reg false [0, 3, 4, 5, 6, 64] [⟨some 59, .mv (.t 5), none, 0, []⟩,
    ⟨some 60, .bin .lss .num (.t 59) (.c (.int .i64 0)), none, 0, []⟩,
    ⟨some 61, .mv (.t 60), none, 0, []⟩,
    ⟨some 62, .mv (.t 5), some (61, false), 0, []⟩,
    ⟨some 63, .bin .gtr .num (.t 62) (.c (.int .i64 100000)), some (61, false), 0, []⟩,
    ⟨some 64, .pick (.t 61) (.c (.bool true)) (.t 63), none, 0, []⟩])
  (.cond (.t 64) (.exit 1)
  (.skip)))
  (.seq (.reg false [0, 3, 4, 6] [⟨some 65, .mv (.t 5), none, 0, []⟩,
    ⟨some 66, .mkslice 1 1 [.int .u8 0] (.t 65) (.t 65), none, 0, []⟩,
    ⟨some 67, .fad 6 (.t 4), none, 0, []⟩,
    ⟨none, .store 1 (.t 67) (.t 66), none, 0, []⟩])
  (.seq (.reg false [0, 3, 6, 8, 9] [⟨some 69, .load (some 7) (.t 4), none, 0, []⟩,
    ⟨some 70, .call (.f 156) [(.t 69)], none, 0, []⟩,
    ⟨some 68, .mv (.t 70), none, 0, []⟩,
    ⟨some 71, .ext 0 (.t 68), none, 0, []⟩,
    ⟨some 72, .ext 1 (.t 68), none, 0, []⟩,
    ⟨some 8, .mv (.t 71), none, 0, []⟩,
    ⟨some 9, .mv (.t 72), none, 0, []⟩])
  (.seq (.reg true [0, 3, 118] [⟨some 73, .mv (.t 9), none, 0, []⟩,
    ⟨some 74, .bin .neq .num (.t 73) (.c (.int .i64 0)), none, 1, []⟩,
    ⟨some 75, .mv (.t 74), none, 2, []⟩,
    ⟨some 76, .mv (.t 0), some (75, false), 3, []⟩,
    ⟨some 77, .mv (.t 3), some (75, false), 4, []⟩,
    ⟨some 78, .iad none 2 (.t 76) (.t 77), some (75, false), 5, []⟩,
    ⟨some 79, .fad 1 (.t 78), some (75, false), 6, []⟩,
    ⟨some 80, .load none (.t 79), some (75, false), 7, []⟩,
    ⟨some 81, .bin .lss .num (.t 80) (.c (.int .i64 0)), some (75, false), 8, []⟩,
    ⟨some 82, .pick (.t 75) (.c (.bool true)) (.t 81), none, 9, []⟩,
    ⟨some 83, .mv (.t 82), none, 10, []⟩,
    ⟨some 84, .mv (.t 6), some (83, false), 11, []⟩,
    ⟨some 85, .mv (.t 0), some (83, false), 12, []⟩,
    ⟨some 86, .mv (.t 3), some (83, false), 13, []⟩,
    ⟨some 87, .iad none 2 (.t 85) (.t 86), some (83, false), 14, []⟩,
    ⟨some 88, .fad 0 (.t 87), some (83, false), 15, []⟩,
    ⟨some 89, .load none (.t 88), some (83, false), 16, []⟩,
    ⟨some 90, .len none (.t 89), some (83, false), 17, []⟩,
    ⟨some 91, .bin .gtr .num (.t 84) (.t 90), some (83, false), 18, []⟩,
    ⟨some 92, .pick (.t 83) (.c (.bool true)) (.t 91), none, 19, []⟩,
    ⟨some 93, .mv (.t 92), none, 20, []⟩,
    ⟨some 94, .mv (.t 6), some (93, false), 21, []⟩,
    ⟨some 95, .mv (.t 0), some (93, false), 22, []⟩,
    ⟨some 96, .mv (.t 3), some (93, false), 23, []⟩,
    ⟨some 97, .iad none 2 (.t 95) (.t 96), some (93, false), 24, []⟩,
    ⟨some 98, .fad 1 (.t 97), some (93, false), 25, []⟩,
    ⟨some 99, .load none (.t 98), some (93, false), 26, []⟩,
    ⟨some 100, .bin .lss .num (.t 94) (.t 99), some (93, false), 27, []⟩,
    ⟨some 101, .pick (.t 93) (.c (.bool true)) (.t 100), none, 28, []⟩,
    ⟨some 102, .mv (.t 101), none, 29, []⟩,
    ⟨some 103, .mv (.t 8), some (102, false), 30, []⟩,
    ⟨some 104, .mv (.t 0), some (102, false), 31, []⟩,
    ⟨some 105, .mv (.t 3), some (102, false), 32, []⟩,
    ⟨some 106, .iad none 2 (.t 104) (.t 105), some (102, false), 33, []⟩,
    ⟨some 107, .fad 0 (.t 106), some (102, false), 34, []⟩,
    ⟨some 108, .load none (.t 107), some (102, false), 35, []⟩,
    ⟨some 109, .mv (.t 0), some (102, false), 36, []⟩,
    ⟨some 110, .mv (.t 3), some (102, false), 37, []⟩,
    ⟨some 111, .iad none 2 (.t 109) (.t 110), some (102, false), 38, []⟩,
    ⟨some 112, .fad 1 (.t 111), some (102, false), 39, []⟩,
    ⟨some 113, .load none (.t 112), some (102, false), 40, []⟩,
    ⟨some 114, .mv (.t 6), some (102, false), 41, []⟩,
    ⟨some 115, .slice 1 (.t 108) (some (.t 113)) (some (.t 114)) none, some (102, false), 42, []⟩,
    ⟨some 116, .call (.f 26) [(.t 103), (.t 115)], some (102, false), 43, []⟩,
    ⟨some 117, .un .not (.t 116), some (102, false), 44, []⟩,
    ⟨some 118, .pick (.t 102) (.c (.bool true)) (.t 117), none, 45, []⟩])
  (.cond (.t 118) (.seq (.reg false [2] [⟨some 2, .mv (.c (.bool false)), none, 0, []⟩])
  (.ret))
  (.skip))))))))))
  (.reg false [0, 3] [⟨some 18, .mv (.t 3), none, 0, []⟩,
    ⟨some 19, .bin .add .num (.t 18) (.c (.int .i64 1)), none, 0, []⟩,
    ⟨some 3, .mv (.t 19), none, 0, []⟩]))
/-- burin/burinlaw16.SegmentOne -/
def burinlaw16_SegmentOne : AFun := ⟨1, 120, true, [.t 2],
  .seq (.reg false [0] [⟨some 2, .mv (.c (.bool false)), none, 0, []⟩])
  (.seq (.seq (.reg false [0, 3] [⟨some 3, .mv (.c (.int .i64 0)), none, 0, []⟩])
  (.block 0 (.loop [0, 3] burinlaw16_SegmentOne_l0)))
  (.seq (.reg false [2] [⟨some 119, .call (.f 167) [], none, 0, []⟩,
    ⟨some 2, .mv (.t 119), none, 0, []⟩])
  (.ret)))⟩

/-- A program that has them. -/
structure HasL16One (P : Prog) : Prop where
  h_burinlaw16_SegmentOne : P 177 = some burinlaw16_SegmentOne

end Go.Ab
