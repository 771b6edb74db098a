/- The texts of functions of the given program, for the abstract machine: written by wip/tools/gen.py out of Lean's print of the translation. Conditions: none; definitions alone. -/
import Derived.Test.YtnpdnkmnnmmagaaK4
set_option linter.all false
namespace Go.Ab
-- burinlaw16_SegmentBack: 176, parameters ?; loops burinlaw16_SegmentBack_l0 [1 ?, 3 ?]; burinlaw16_SegmentBack_l1 [1 ?, 3 ?, 4 ?, 6 ?, 12 ?]

def burinlaw16_SegmentBack_l1 : Cd := .seq (.seq (.reg false [1, 3, 4, 6, 12, 129] [⟨some 126, .mv (.t 12), none, 0, []⟩,
    ⟨some 127, .mv (.t 4), none, 0, []⟩,
    ⟨some 128, .len none (.t 127), none, 0, []⟩,
    ⟨some 129, .bin .lss .num (.t 126) (.t 128), none, 0, []⟩])
  (.cond (.t 129) (.skip)
  (.exit 2)))
  (.seq (.block 3 (.seq (.reg true [1, 3, 4, 6, 10, 12] [⟨some 137, .mv (.t 6), none, 0, []⟩,
    ⟨some 138, .fad 1 (.t 1), none, 1, []⟩,
    ⟨some 139, .load none (.t 138), none, 2, []⟩,
    ⟨some 140, .len none (.t 139), none, 3, []⟩,
    ⟨some 141, .mv (.t 12), none, 4, []⟩,
    ⟨some 142, .bin .add .num (.t 140) (.t 141), none, 5, []⟩,
    ⟨some 143, .slice 1 (.t 137) none (some (.t 142)) none, none, 6, []⟩,
    ⟨some 144, .fad 1 (.t 1), none, 7, []⟩,
    ⟨some 145, .load none (.t 144), none, 8, []⟩,
    ⟨some 146, .len none (.t 145), none, 9, []⟩,
    ⟨some 147, .call (.f 163) [(.t 143), (.t 146)], none, 10, []⟩,
    ⟨some 136, .mv (.t 147), none, 11, []⟩,
    ⟨some 148, .ext 0 (.t 136), none, 12, []⟩,
    ⟨some 149, .ext 1 (.t 136), none, 13, []⟩,
    ⟨some 150, .ext 2 (.t 136), none, 14, []⟩,
    ⟨some 151, .ext 3 (.t 136), none, 15, []⟩,
    ⟨some 10, .mv (.t 151), none, 16, []⟩])
  (.seq (.reg false [1, 3, 4, 6, 12, 153] [⟨some 152, .mv (.t 10), none, 0, []⟩,
    ⟨some 153, .bin .neq .num (.t 152) (.c (.int .i64 163)), none, 0, []⟩])
  (.cond (.t 153) (.seq (.reg false [2] [⟨some 2, .mv (.c (.bool false)), none, 0, []⟩])
  (.ret))
  (.skip)))))
  (.reg false [1, 3, 4, 6, 12] [⟨some 130, .mv (.t 12), none, 0, []⟩,
    ⟨some 131, .bin .add .num (.t 130) (.c (.int .i64 1)), none, 0, []⟩,
    ⟨some 132, .mv (.t 4), none, 0, []⟩,
    ⟨some 133, .len none (.t 132), none, 0, []⟩,
    ⟨some 134, .bin .quo .num (.t 133) (.c (.int .i64 40)), none, 0, []⟩,
    ⟨some 135, .bin .add .num (.t 131) (.t 134), none, 0, []⟩,
    ⟨some 12, .mv (.t 135), none, 0, []⟩]))
def burinlaw16_SegmentBack_l0 : Cd := .seq (.seq (.reg false [1, 3, 30] [⟨some 22, .mv (.t 3), none, 0, []⟩,
    ⟨some 23, .fad 0 (.t 1), none, 0, []⟩,
    ⟨some 24, .load none (.t 23), none, 0, []⟩,
    ⟨some 25, .len none (.t 24), none, 0, []⟩,
    ⟨some 26, .bin .lss .num (.t 22) (.t 25), none, 0, []⟩,
    ⟨some 27, .mv (.t 26), none, 0, []⟩,
    ⟨some 28, .mv (.t 3), some (27, true), 0, []⟩,
    ⟨some 29, .bin .lss .num (.t 28) (.c (.int .i64 10)), some (27, true), 0, []⟩,
    ⟨some 30, .pick (.t 27) (.t 29) (.c (.bool false)), none, 0, []⟩])
  (.cond (.t 30) (.skip)
  (.exit 0)))
  (.seq (.block 1 (.seq (.seq (.reg false [1, 3, 50] [⟨some 33, .fad 0 (.t 1), none, 0, []⟩,
    ⟨some 34, .load none (.t 33), none, 0, []⟩,
    ⟨some 35, .mv (.t 3), none, 0, []⟩,
    ⟨some 36, .iad none 7 (.t 34) (.t 35), none, 0, []⟩,
    ⟨some 37, .fad 3 (.t 36), none, 0, []⟩,
    ⟨some 38, .load none (.t 37), none, 0, []⟩,
    ⟨some 39, .len none (.t 38), none, 0, []⟩,
    ⟨some 40, .bin .gtr .num (.t 39) (.c (.int .i64 2000)), none, 0, []⟩,
    ⟨some 41, .mv (.t 40), none, 0, []⟩,
    ⟨some 42, .fad 0 (.t 1), some (41, false), 0, []⟩,
    ⟨some 43, .load none (.t 42), some (41, false), 0, []⟩,
    ⟨some 44, .mv (.t 3), some (41, false), 0, []⟩,
    ⟨some 45, .iad none 7 (.t 43) (.t 44), some (41, false), 0, []⟩,
    ⟨some 46, .fad 6 (.t 45), some (41, false), 0, []⟩,
    ⟨some 47, .load none (.t 46), some (41, false), 0, []⟩,
    ⟨some 48, .len none (.t 47), some (41, false), 0, []⟩,
    ⟨some 49, .bin .gtr .num (.t 48) (.c (.int .i64 100000)), some (41, false), 0, []⟩,
    ⟨some 50, .pick (.t 41) (.c (.bool true)) (.t 49), none, 0, []⟩])
  (.cond (.t 50) (.exit 1)
  (.skip)))
  (.seq (.reg false [1, 3, 4, 5] [⟨some 52, .fad 0 (.t 1), none, 0, []⟩,
    ⟨some 53, .load none (.t 52), none, 0, []⟩,
    ⟨some 54, .mv (.t 3), none, 0, []⟩,
    ⟨some 55, .iad none 7 (.t 53) (.t 54), none, 0, []⟩,
    ⟨some 56, .load (some 7) (.t 55), none, 0, []⟩,
    ⟨some 57, .call (.f 156) [(.t 56)], none, 0, []⟩,
    ⟨some 51, .mv (.t 57), none, 0, []⟩,
    ⟨some 58, .ext 0 (.t 51), none, 0, []⟩,
    ⟨some 59, .ext 1 (.t 51), none, 0, []⟩,
    ⟨some 4, .mv (.t 58), none, 0, []⟩,
    ⟨some 5, .mv (.t 59), none, 0, []⟩])
  (.seq (.seq (.reg false [1, 3, 4, 61] [⟨some 60, .mv (.t 5), none, 0, []⟩,
    ⟨some 61, .bin .neq .num (.t 60) (.c (.int .i64 0)), none, 0, []⟩])
  (.cond (.t 61) (.seq (.seq (.reg false [1, 3, 72] [⟨some 62, .mv (.t 4), none, 0, []⟩,
    ⟨some 63, .len none (.t 62), none, 0, []⟩,
    ⟨some 64, .bin .gtr .num (.t 63) (.c (.int .i64 0)), none, 0, []⟩,
    ⟨some 65, .mv (.t 64), none, 0, []⟩,
    ⟨some 66, .fad 0 (.t 1), some (65, false), 0, []⟩,
    ⟨some 67, .load none (.t 66), some (65, false), 0, []⟩,
    ⟨some 68, .mv (.t 3), some (65, false), 0, []⟩,
    ⟨some 69, .iad none 7 (.t 67) (.t 68), some (65, false), 0, []⟩,
    ⟨some 70, .load (some 7) (.t 69), some (65, false), 0, []⟩,
    ⟨some 71, .call (.f 154) [(.t 70)], some (65, false), 0, []⟩,
    ⟨some 72, .pick (.t 65) (.c (.bool true)) (.t 71), none, 0, []⟩])
  (.cond (.t 72) (.seq (.reg false [2] [⟨some 2, .mv (.c (.bool false)), none, 0, []⟩])
  (.ret))
  (.skip)))
  (.exit 1))
  (.skip)))
  (.seq (.reg true [1, 3, 4, 6] [⟨some 73, .fad 1 (.t 1), none, 0, []⟩,
    ⟨some 74, .load none (.t 73), none, 1, []⟩,
    ⟨some 76, .mv (.t 4), none, 3, []⟩,
    ⟨some 78, .fad 2 (.t 1), none, 5, []⟩,
    ⟨some 79, .load none (.t 78), none, 6, []⟩,
    ⟨some 75, .call (.f 27) [(.t 74)], none, 2, [6]⟩,
    ⟨some 77, .append 1 1 (.t 75) (.t 76), none, 4, [6]⟩,
    ⟨some 80, .append 1 1 (.t 77) (.t 79), none, 7, []⟩,
    ⟨some 6, .mv (.t 80), none, 8, []⟩])
  (.seq (.reg false [1, 3, 4, 6, 7, 8, 9, 10] [⟨some 82, .mv (.t 6), none, 0, []⟩,
    ⟨some 83, .fad 1 (.t 1), none, 0, []⟩,
    ⟨some 84, .load none (.t 83), none, 0, []⟩,
    ⟨some 85, .len none (.t 84), none, 0, []⟩,
    ⟨some 86, .call (.f 163) [(.t 82), (.t 85)], none, 0, []⟩,
    ⟨some 81, .mv (.t 86), none, 0, []⟩,
    ⟨some 87, .ext 0 (.t 81), none, 0, []⟩,
    ⟨some 88, .ext 1 (.t 81), none, 0, []⟩,
    ⟨some 89, .ext 2 (.t 81), none, 0, []⟩,
    ⟨some 90, .ext 3 (.t 81), none, 0, []⟩,
    ⟨some 7, .alloc [.int .i64 0, .int .i64 0, .int .i64 0, .sl none 0 0 0, .sl none 0 0 0, .bool false, .sl none 0 0 0], none, 0, []⟩,
    ⟨none, .store 7 (.t 7) (.t 87), none, 0, []⟩,
    ⟨some 8, .mv (.t 88), none, 0, []⟩,
    ⟨some 9, .mv (.t 89), none, 0, []⟩,
    ⟨some 10, .mv (.t 90), none, 0, []⟩])
  (.seq (.reg false [1, 3, 4, 6, 7, 8, 9, 10, 11] [⟨some 91, .fad 0 (.t 1), none, 0, []⟩,
    ⟨some 92, .load none (.t 91), none, 0, []⟩,
    ⟨some 93, .mv (.t 3), none, 0, []⟩,
    ⟨some 94, .iad none 7 (.t 92) (.t 93), none, 0, []⟩,
    ⟨some 95, .load (some 7) (.t 94), none, 0, []⟩,
    ⟨some 11, .alloc [.int .i64 0, .int .i64 0, .int .i64 0, .sl none 0 0 0, .sl none 0 0 0, .bool false, .sl none 0 0 0], none, 0, []⟩,
    ⟨none, .store 7 (.t 11) (.t 95), none, 0, []⟩])
  (.seq (.reg false [1, 3, 4, 6, 7, 8, 9, 10, 11] [⟨some 96, .fad 6 (.t 11), none, 0, []⟩,
    ⟨none, .store 1 (.t 96) (.c (.sl none 0 0 0)), none, 0, []⟩])
  (.seq (.seq (.reg false [1, 3, 4, 6, 125] [⟨some 97, .mv (.t 10), none, 0, []⟩,
    ⟨some 98, .bin .neq .num (.t 97) (.c (.int .i64 0)), none, 0, []⟩,
    ⟨some 99, .mv (.t 98), none, 0, []⟩,
    ⟨some 100, .load (some 7) (.t 7), some (99, false), 0, []⟩,
    ⟨some 101, .load (some 7) (.t 11), some (99, false), 0, []⟩,
    ⟨some 102, .call (.f 166) [(.t 100), (.t 101)], some (99, false), 0, []⟩,
    ⟨some 103, .un .not (.t 102), some (99, false), 0, []⟩,
    ⟨some 104, .pick (.t 99) (.c (.bool true)) (.t 103), none, 0, []⟩,
    ⟨some 105, .mv (.t 104), none, 0, []⟩,
    ⟨some 106, .mv (.t 8), some (105, false), 0, []⟩,
    ⟨some 107, .fad 0 (.t 1), some (105, false), 0, []⟩,
    ⟨some 108, .load none (.t 107), some (105, false), 0, []⟩,
    ⟨some 109, .mv (.t 3), some (105, false), 0, []⟩,
    ⟨some 110, .iad none 7 (.t 108) (.t 109), some (105, false), 0, []⟩,
    ⟨some 111, .fad 6 (.t 110), some (105, false), 0, []⟩,
    ⟨some 112, .load none (.t 111), some (105, false), 0, []⟩,
    ⟨some 113, .len none (.t 112), some (105, false), 0, []⟩,
    ⟨some 114, .bin .neq .num (.t 106) (.t 113), some (105, false), 0, []⟩,
    ⟨some 115, .pick (.t 105) (.c (.bool true)) (.t 114), none, 0, []⟩,
    ⟨some 116, .mv (.t 115), none, 0, []⟩,
    ⟨some 117, .mv (.t 9), some (116, false), 0, []⟩,
    ⟨some 118, .fad 1 (.t 1), some (116, false), 0, []⟩,
    ⟨some 119, .load none (.t 118), some (116, false), 0, []⟩,
    ⟨some 120, .len none (.t 119), some (116, false), 0, []⟩,
    ⟨some 121, .mv (.t 4), some (116, false), 0, []⟩,
    ⟨some 122, .len none (.t 121), some (116, false), 0, []⟩,
    ⟨some 123, .bin .add .num (.t 120) (.t 122), some (116, false), 0, []⟩,
    ⟨some 124, .bin .neq .num (.t 117) (.t 123), some (116, false), 0, []⟩,
    ⟨some 125, .pick (.t 116) (.c (.bool true)) (.t 124), none, 0, []⟩])
  (.cond (.t 125) (.seq (.reg false [2] [⟨some 2, .mv (.c (.bool false)), none, 0, []⟩])
  (.ret))
  (.skip)))
  (.seq (.reg false [1, 3, 4, 6, 12] [⟨some 12, .mv (.c (.int .i64 0)), none, 0, []⟩])
  (.block 2 (.loop [1, 3, 4, 6, 12] burinlaw16_SegmentBack_l1))))))))))))
  (.reg false [1, 3] [⟨some 31, .mv (.t 3), none, 0, []⟩,
    ⟨some 32, .bin .add .num (.t 31) (.c (.int .i64 1)), none, 0, []⟩,
    ⟨some 3, .mv (.t 32), none, 0, []⟩]))
/-- burin/burinlaw16.SegmentBack -/
def burinlaw16_SegmentBack : AFun := ⟨1, 155, true, [.t 2],
  .seq (.reg false [1] [⟨some 1, .box 3 (.t 0), none, 0, []⟩,
    ⟨some 2, .mv (.c (.bool false)), none, 0, []⟩])
  (.seq (.seq (.reg false [1, 20] [⟨some 13, .fad 1 (.t 1), none, 0, []⟩,
    ⟨some 14, .load none (.t 13), none, 0, []⟩,
    ⟨some 15, .len none (.t 14), none, 0, []⟩,
    ⟨some 16, .fad 2 (.t 1), none, 0, []⟩,
    ⟨some 17, .load none (.t 16), none, 0, []⟩,
    ⟨some 18, .len none (.t 17), none, 0, []⟩,
    ⟨some 19, .bin .add .num (.t 15) (.t 18), none, 0, []⟩,
    ⟨some 20, .bin .gtr .num (.t 19) (.c (.int .i64 2000)), none, 0, []⟩])
  (.cond (.t 20) (.seq (.reg false [2] [⟨some 21, .call (.f 167) [], none, 0, []⟩,
    ⟨some 2, .mv (.t 21), none, 0, []⟩])
  (.ret))
  (.skip)))
  (.seq (.seq (.reg false [1, 3] [⟨some 3, .mv (.c (.int .i64 0)), none, 0, []⟩])
  (.block 0 (.loop [1, 3] burinlaw16_SegmentBack_l0)))
  (.seq (.reg false [2] [⟨some 154, .call (.f 167) [], none, 0, []⟩,
    ⟨some 2, .mv (.t 154), none, 0, []⟩])
  (.ret))))⟩

/-- A program that has them. -/
structure HasL16Back (P : Prog) : Prop where
  h_burinlaw16_SegmentBack : P 176 = some burinlaw16_SegmentBack

end Go.Ab
