/- The texts of functions of the given program, for the abstract machine: written by wip/tools/gen.py out of Lean's print of the translation. Conditions: none; definitions alone. -/
import Derived.Test.YtdkgdneiilnppaaK1
set_option linter.all false
namespace Go.Ab
-- burinlaw9_RunsOf: 123, parameters ?; loops burinlaw9_RunsOf_l0 [0 ?, 3 ?]; burinlaw9_RunsOf_l1 [0 ?, 3 ?, 4 ?, 5 ?, 6 ?]; burinlaw9_RunsOf_l2 [0 ?, 3 ?, 4 ?, 5 ?, 6 ?, 8 ?, 10 ?]; burinlaw9_RunsOf_l3 [0 ?, 3 ?, 4 ?, 5 ?, 6 ?, 8 ?, 10 ?, 11 ?, 12 ?]

def burinlaw9_RunsOf_l3 : Cd := .seq (.seq (.reg false [0, 3, 4, 5, 6, 8, 10, 11, 12, 86] [⟨some 83, .mv (.t 12), none, 0, []⟩,
    ⟨some 84, .mv (.t 11), none, 0, []⟩,
    ⟨some 85, .len none (.t 84), none, 0, []⟩,
    ⟨some 86, .bin .lss .num (.t 83) (.t 85), none, 0, []⟩])
  (.cond (.t 86) (.skip)
  (.exit 6)))
  (.seq (.block 7 (.reg false [0, 3, 4, 5, 6, 8, 10, 11, 12] [⟨some 89, .mv (.t 11), none, 0, []⟩,
    ⟨some 90, .mv (.t 12), none, 0, []⟩,
    ⟨some 91, .build [.int .i64 0, .int .i64 0] [(0, 1, (.c (.int .i64 (-1)))), (1, 1, (.c (.int .i64 (-1))))], none, 0, []⟩,
    ⟨some 92, .iad none 2 (.t 89) (.t 90), none, 0, []⟩,
    ⟨none, .store 2 (.t 92) (.t 91), none, 0, []⟩]))
  (.reg false [0, 3, 4, 5, 6, 8, 10, 11, 12] [⟨some 87, .mv (.t 12), none, 0, []⟩,
    ⟨some 88, .bin .add .num (.t 87) (.c (.int .i64 1)), none, 0, []⟩,
    ⟨some 12, .mv (.t 88), none, 0, []⟩]))
def burinlaw9_RunsOf_l2 : Cd := .seq (.seq (.reg false [0, 3, 4, 5, 6, 8, 10, 73] [⟨some 70, .mv (.t 10), none, 0, []⟩,
    ⟨some 71, .mv (.t 8), none, 0, []⟩,
    ⟨some 72, .len none (.t 71), none, 0, []⟩,
    ⟨some 73, .bin .lss .num (.t 70) (.t 72), none, 0, []⟩])
  (.cond (.t 73) (.skip)
  (.exit 4)))
  (.seq (.block 5 (.seq (.reg false [0, 3, 4, 5, 6, 8, 10, 11] [⟨some 76, .mv (.t 8), none, 0, []⟩,
    ⟨some 77, .mv (.t 10), none, 0, []⟩,
    ⟨some 78, .iad none 1 (.t 76) (.t 77), none, 0, []⟩,
    ⟨some 79, .load none (.t 78), none, 0, []⟩,
    ⟨some 80, .build [.int .i64 0, .int .i64 0] [(0, 1, (.c (.int .i64 9))), (1, 1, (.c (.int .i64 9)))], none, 0, []⟩,
    ⟨some 81, .bslice 2 [.int .i64 0, .int .i64 0] 1 [(0, (.t 80))], none, 0, []⟩,
    ⟨some 82, .append 2 16 (.t 79) (.t 81), none, 0, []⟩,
    ⟨some 11, .mv (.t 82), none, 0, []⟩])
  (.seq (.reg false [0, 3, 4, 5, 6, 8, 10, 11, 12] [⟨some 12, .mv (.c (.int .i64 0)), none, 0, []⟩])
  (.block 6 (.loop [0, 3, 4, 5, 6, 8, 10, 11, 12] burinlaw9_RunsOf_l3)))))
  (.reg false [0, 3, 4, 5, 6, 8, 10] [⟨some 74, .mv (.t 10), none, 0, []⟩,
    ⟨some 75, .bin .add .num (.t 74) (.c (.int .i64 1)), none, 0, []⟩,
    ⟨some 10, .mv (.t 75), none, 0, []⟩]))
def burinlaw9_RunsOf_l1 : Cd := .seq (.seq (.reg false [0, 3, 4, 5, 6, 39] [⟨some 38, .mv (.t 6), none, 0, []⟩,
    ⟨some 39, .bin .lss .num (.t 38) (.c (.int .i64 2)), none, 0, []⟩])
  (.cond (.t 39) (.skip)
  (.exit 2)))
  (.seq (.block 3 (.seq (.reg false [0, 3, 4, 5, 6, 7] [⟨some 42, .mv (.t 0), none, 0, []⟩,
    ⟨some 43, .mv (.t 3), none, 0, []⟩,
    ⟨some 44, .iad none 3 (.t 42) (.t 43), none, 0, []⟩,
    ⟨some 45, .load (some 3) (.t 44), none, 0, []⟩,
    ⟨some 46, .call (.f 95) [(.t 45)], none, 0, []⟩,
    ⟨some 7, .alloc [.int .i64 0, .int .i64 0, .sl none 0 0 0], none, 0, []⟩,
    ⟨none, .store 3 (.t 7) (.t 46), none, 0, []⟩])
  (.seq (.reg false [0, 3, 4, 5, 6, 7, 8, 9] [⟨some 48, .load (some 3) (.t 7), none, 0, []⟩,
    ⟨some 49, .call (.f 115) [(.t 48)], none, 0, []⟩,
    ⟨some 47, .mv (.t 49), none, 0, []⟩,
    ⟨some 50, .ext 0 (.t 47), none, 0, []⟩,
    ⟨some 51, .ext 1 (.t 47), none, 0, []⟩,
    ⟨some 8, .mv (.t 50), none, 0, []⟩,
    ⟨some 9, .mv (.t 51), none, 0, []⟩])
  (.seq (.seq (.reg true [0, 3, 4, 5, 6, 8, 69] [⟨some 52, .load (some 3) (.t 7), none, 0, []⟩,
    ⟨some 53, .mv (.t 0), none, 1, []⟩,
    ⟨some 54, .mv (.t 3), none, 2, []⟩,
    ⟨some 55, .iad none 3 (.t 53) (.t 54), none, 3, []⟩,
    ⟨some 56, .load (some 3) (.t 55), none, 4, []⟩,
    ⟨some 57, .call (.f 96) [(.t 52), (.t 56)], none, 5, []⟩,
    ⟨some 58, .un .not (.t 57), none, 6, []⟩,
    ⟨some 59, .mv (.t 58), none, 7, []⟩,
    ⟨some 60, .mv (.t 9), some (59, false), 8, []⟩,
    ⟨some 61, .mv (.t 5), some (59, false), 9, []⟩,
    ⟨some 62, .bin .neq .num (.t 60) (.t 61), some (59, false), 10, []⟩,
    ⟨some 63, .pick (.t 59) (.c (.bool true)) (.t 62), none, 11, []⟩,
    ⟨some 64, .mv (.t 63), none, 12, []⟩,
    ⟨some 65, .mv (.t 8), some (64, false), 13, []⟩,
    ⟨some 66, .mv (.t 4), some (64, false), 14, []⟩,
    ⟨some 67, .call (.f 121) [(.t 65), (.t 66)], some (64, false), 15, []⟩,
    ⟨some 68, .un .not (.t 67), some (64, false), 16, []⟩,
    ⟨some 69, .pick (.t 64) (.c (.bool true)) (.t 68), none, 17, []⟩])
  (.cond (.t 69) (.seq (.reg false [2] [⟨some 2, .mv (.c (.bool false)), none, 0, []⟩])
  (.ret))
  (.skip)))
  (.seq (.reg false [0, 3, 4, 5, 6, 8, 10] [⟨some 10, .mv (.c (.int .i64 0)), none, 0, []⟩])
  (.block 4 (.loop [0, 3, 4, 5, 6, 8, 10] burinlaw9_RunsOf_l2)))))))
  (.reg false [0, 3, 4, 5, 6] [⟨some 40, .mv (.t 6), none, 0, []⟩,
    ⟨some 41, .bin .add .num (.t 40) (.c (.int .i64 1)), none, 0, []⟩,
    ⟨some 6, .mv (.t 41), none, 0, []⟩]))
def burinlaw9_RunsOf_l0 : Cd := .seq (.seq (.reg false [0, 3, 20] [⟨some 13, .mv (.t 3), none, 0, []⟩,
    ⟨some 14, .mv (.t 0), none, 0, []⟩,
    ⟨some 15, .len none (.t 14), none, 0, []⟩,
    ⟨some 16, .bin .lss .num (.t 13) (.t 15), none, 0, []⟩,
    ⟨some 17, .mv (.t 16), none, 0, []⟩,
    ⟨some 18, .mv (.t 3), some (17, true), 0, []⟩,
    ⟨some 19, .bin .lss .num (.t 18) (.c (.int .i64 6)), some (17, true), 0, []⟩,
    ⟨some 20, .pick (.t 17) (.t 19) (.c (.bool false)), none, 0, []⟩])
  (.cond (.t 20) (.skip)
  (.exit 0)))
  (.seq (.block 1 (.seq (.seq (.reg false [0, 3, 29] [⟨some 23, .mv (.t 0), none, 0, []⟩,
    ⟨some 24, .mv (.t 3), none, 0, []⟩,
    ⟨some 25, .iad none 3 (.t 23) (.t 24), none, 0, []⟩,
    ⟨some 26, .fad 2 (.t 25), none, 0, []⟩,
    ⟨some 27, .load none (.t 26), none, 0, []⟩,
    ⟨some 28, .len none (.t 27), none, 0, []⟩,
    ⟨some 29, .bin .gtr .num (.t 28) (.c (.int .i64 937)), none, 0, []⟩])
  (.cond (.t 29) (.exit 1)
  (.skip)))
  (.seq (.reg false [0, 3, 4, 5] [⟨some 31, .mv (.t 0), none, 0, []⟩,
    ⟨some 32, .mv (.t 3), none, 0, []⟩,
    ⟨some 33, .iad none 3 (.t 31) (.t 32), none, 0, []⟩,
    ⟨some 34, .load (some 3) (.t 33), none, 0, []⟩,
    ⟨some 35, .call (.f 118) [(.t 34)], none, 0, []⟩,
    ⟨some 30, .mv (.t 35), none, 0, []⟩,
    ⟨some 36, .ext 0 (.t 30), none, 0, []⟩,
    ⟨some 37, .ext 1 (.t 30), none, 0, []⟩,
    ⟨some 4, .mv (.t 36), none, 0, []⟩,
    ⟨some 5, .mv (.t 37), none, 0, []⟩])
  (.seq (.reg false [0, 3, 4, 5, 6] [⟨some 6, .mv (.c (.int .i64 0)), none, 0, []⟩])
  (.block 2 (.loop [0, 3, 4, 5, 6] burinlaw9_RunsOf_l1))))))
  (.reg false [0, 3] [⟨some 21, .mv (.t 3), none, 0, []⟩,
    ⟨some 22, .bin .add .num (.t 21) (.c (.int .i64 1)), none, 0, []⟩,
    ⟨some 3, .mv (.t 22), none, 0, []⟩]))
/-- burin/burinlaw9.RunsOf -/
def burinlaw9_RunsOf : AFun := ⟨1, 94, true, [.t 2],
  .seq (.reg false [0] [⟨some 2, .mv (.c (.bool false)), none, 0, []⟩])
  (.seq (.seq (.reg false [0, 3] [⟨some 3, .mv (.c (.int .i64 0)), none, 0, []⟩])
  (.block 0 (.loop [0, 3] burinlaw9_RunsOf_l0)))
  (.seq (.reg false [2] [⟨some 93, .call (.f 122) [], none, 0, []⟩,
    ⟨some 2, .mv (.t 93), none, 0, []⟩])
  (.ret)))⟩

/-- A program that has them. -/
structure HasL9Of (P : Prog) : Prop where
  h_burinlaw9_RunsOf : P 123 = some burinlaw9_RunsOf

end Go.Ab
