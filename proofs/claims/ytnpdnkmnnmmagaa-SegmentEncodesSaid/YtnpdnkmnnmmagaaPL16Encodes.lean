/- The texts of functions of the given program, for the abstract machine: written by wip/tools/gen.py out of Lean's print of the translation. Conditions: none; definitions alone. -/
import Derived.Test.YtnpdnkmnnmmagaaK4
set_option linter.all false
namespace Go.Ab
-- burinlaw16_SegmentEncodes: 175, parameters ?; loops burinlaw16_SegmentEncodes_l0 [0 ?, 3 ?]

def burinlaw16_SegmentEncodes_l0 : Cd := .seq (.seq (.reg false [0, 3, 16] [⟨some 9, .mv (.t 3), none, 0, []⟩,
    ⟨some 10, .mv (.t 0), none, 0, []⟩,
    ⟨some 11, .len none (.t 10), none, 0, []⟩,
    ⟨some 12, .bin .lss .num (.t 9) (.t 11), none, 0, []⟩,
    ⟨some 13, .mv (.t 12), none, 0, []⟩,
    ⟨some 14, .mv (.t 3), some (13, true), 0, []⟩,
    ⟨some 15, .bin .lss .num (.t 14) (.c (.int .i64 10)), some (13, true), 0, []⟩,
    ⟨some 16, .pick (.t 13) (.t 15) (.c (.bool false)), none, 0, []⟩])
  (.cond (.t 16) (.skip)
  (.exit 0)))
  (.seq (.block 1 (.seq (.seq (.reg false [0, 3, 34] [⟨some 19, .mv (.t 0), none, 0, []⟩,
    ⟨some 20, .mv (.t 3), none, 0, []⟩,
    ⟨some 21, .iad none 7 (.t 19) (.t 20), none, 0, []⟩,
    ⟨some 22, .fad 3 (.t 21), none, 0, []⟩,
    ⟨some 23, .load none (.t 22), none, 0, []⟩,
    ⟨some 24, .len none (.t 23), none, 0, []⟩,
    ⟨some 25, .bin .gtr .num (.t 24) (.c (.int .i64 5000)), none, 0, []⟩,
    ⟨some 26, .mv (.t 25), none, 0, []⟩,
    ⟨some 27, .mv (.t 0), some (26, false), 0, []⟩,
    ⟨some 28, .mv (.t 3), some (26, false), 0, []⟩,
    ⟨some 29, .iad none 7 (.t 27) (.t 28), some (26, false), 0, []⟩,
    ⟨some 30, .fad 6 (.t 29), some (26, false), 0, []⟩,
    ⟨some 31, .load none (.t 30), some (26, false), 0, []⟩,
    ⟨some 32, .len none (.t 31), some (26, false), 0, []⟩,
    ⟨some 33, .bin .gtr .num (.t 32) (.c (.int .i64 100000)), some (26, false), 0, []⟩,
    ⟨some 34, .pick (.t 26) (.c (.bool true)) (.t 33), none, 0, []⟩])
  (.cond (.t 34) (.exit 1)
  (.skip)))
  (.seq (.reg false [0, 3, 4] [⟨some 35, .mv (.t 0), none, 0, []⟩,
    ⟨some 36, .mv (.t 3), none, 0, []⟩,
    ⟨some 37, .mv (.t 3), none, 0, []⟩,
    ⟨some 38, .bin .add .num (.t 37) (.c (.int .i64 1)), none, 0, []⟩,
    ⟨some 39, .slice 7 (.t 35) (some (.t 36)) (some (.t 38)) none, none, 0, []⟩,
    ⟨some 40, .call (.f 174) [(.t 39)], none, 0, []⟩,
    ⟨some 41, .iad none 7 (.t 40) (.c (.int .i64 0)), none, 0, []⟩,
    ⟨some 42, .load (some 7) (.t 41), none, 0, []⟩,
    ⟨some 4, .alloc [.int .i64 0, .int .i64 0, .int .i64 0, .sl none 0 0 0, .sl none 0 0 0, .bool false, .sl none 0 0 0], none, 0, []⟩,
    ⟨none, .store 7 (.t 4) (.t 42), none, 0, []⟩])
  (.seq (.reg false [0, 3, 4, 5, 6] [⟨some 44, .load (some 7) (.t 4), none, 0, []⟩,
    ⟨some 45, .call (.f 156) [(.t 44)], none, 0, []⟩,
    ⟨some 43, .mv (.t 45), none, 0, []⟩,
    ⟨some 46, .ext 0 (.t 43), none, 0, []⟩,
    ⟨some 47, .ext 1 (.t 43), none, 0, []⟩,
    ⟨some 5, .mv (.t 46), none, 0, []⟩,
    ⟨some 6, .mv (.t 47), none, 0, []⟩])
  (.seq (.reg false [0, 3, 4, 5, 6, 7, 8] [⟨some 49, .mv (.t 0), none, 0, []⟩,
    ⟨some 50, .mv (.t 3), none, 0, []⟩,
    ⟨some 51, .iad none 7 (.t 49) (.t 50), none, 0, []⟩,
    ⟨some 52, .load (some 7) (.t 51), none, 0, []⟩,
    ⟨some 53, .call (.f 172) [(.t 52)], none, 0, []⟩,
    ⟨some 48, .mv (.t 53), none, 0, []⟩,
    ⟨some 54, .ext 0 (.t 48), none, 0, []⟩,
    ⟨some 55, .ext 1 (.t 48), none, 0, []⟩,
    ⟨some 7, .mv (.t 54), none, 0, []⟩,
    ⟨some 8, .mv (.t 55), none, 0, []⟩])
  (.seq (.reg true [0, 3, 83] [⟨some 56, .load (some 7) (.t 4), none, 0, []⟩,
    ⟨some 58, .mv (.t 0), none, 2, []⟩,
    ⟨some 59, .mv (.t 3), none, 3, []⟩,
    ⟨some 60, .iad none 7 (.t 58) (.t 59), none, 4, []⟩,
    ⟨some 61, .load (some 7) (.t 60), none, 5, []⟩,
    ⟨some 57, .call (.f 154) [(.t 56)], none, 1, [5]⟩,
    ⟨some 62, .call (.f 170) [(.t 61)], none, 6, []⟩,
    ⟨some 63, .bin .neq .bool (.t 57) (.t 62), none, 7, []⟩,
    ⟨some 64, .mv (.t 63), none, 8, []⟩,
    ⟨some 65, .mv (.t 6), some (64, false), 9, []⟩,
    ⟨some 66, .mv (.t 8), some (64, false), 10, []⟩,
    ⟨some 67, .bin .neq .num (.t 65) (.t 66), some (64, false), 11, []⟩,
    ⟨some 68, .pick (.t 64) (.c (.bool true)) (.t 67), none, 12, []⟩,
    ⟨some 69, .mv (.t 68), none, 13, []⟩,
    ⟨some 70, .mv (.t 5), some (69, false), 14, []⟩,
    ⟨some 71, .mv (.t 7), some (69, false), 15, []⟩,
    ⟨some 72, .call (.f 26) [(.t 70), (.t 71)], some (69, false), 16, []⟩,
    ⟨some 73, .un .not (.t 72), some (69, false), 17, []⟩,
    ⟨some 74, .pick (.t 69) (.c (.bool true)) (.t 73), none, 18, []⟩,
    ⟨some 75, .mv (.t 74), none, 19, []⟩,
    ⟨some 76, .load (some 7) (.t 4), some (75, false), 20, []⟩,
    ⟨some 77, .mv (.t 0), some (75, false), 21, []⟩,
    ⟨some 78, .mv (.t 3), some (75, false), 22, []⟩,
    ⟨some 79, .iad none 7 (.t 77) (.t 78), some (75, false), 23, []⟩,
    ⟨some 80, .load (some 7) (.t 79), some (75, false), 24, []⟩,
    ⟨some 81, .call (.f 166) [(.t 76), (.t 80)], some (75, false), 25, []⟩,
    ⟨some 82, .un .not (.t 81), some (75, false), 26, []⟩,
    ⟨some 83, .pick (.t 75) (.c (.bool true)) (.t 82), none, 27, []⟩])
  (.cond (.t 83) (.seq (.reg false [2] [⟨some 2, .mv (.c (.bool false)), none, 0, []⟩])
  (.ret))
  (.skip))))))))
  (.reg false [0, 3] [⟨some 17, .mv (.t 3), none, 0, []⟩,
    ⟨some 18, .bin .add .num (.t 17) (.c (.int .i64 1)), none, 0, []⟩,
    ⟨some 3, .mv (.t 18), none, 0, []⟩]))
/-- burin/burinlaw16.SegmentEncodes -/
def burinlaw16_SegmentEncodes : AFun := ⟨1, 85, true, [.t 2],
  .seq (.reg false [0] [⟨some 2, .mv (.c (.bool false)), none, 0, []⟩])
  (.seq (.seq (.reg false [0, 3] [⟨some 3, .mv (.c (.int .i64 0)), none, 0, []⟩])
  (.block 0 (.loop [0, 3] burinlaw16_SegmentEncodes_l0)))
  (.seq (.reg false [2] [⟨some 84, .call (.f 167) [], none, 0, []⟩,
    ⟨some 2, .mv (.t 84), none, 0, []⟩])
  (.ret)))⟩

/-- A program that has them. -/
structure HasL16Encodes (P : Prog) : Prop where
  h_burinlaw16_SegmentEncodes : P 175 = some burinlaw16_SegmentEncodes

end Go.Ab
