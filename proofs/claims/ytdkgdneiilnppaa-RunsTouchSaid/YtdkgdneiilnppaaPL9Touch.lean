/- The texts of functions of the given program, for the abstract machine: written by wip/tools/gen.py out of Lean's print of the translation. Conditions: none; definitions alone. -/
import Derived.Test.YtdkgdneiilnppaaK1
set_option linter.all false
namespace Go.Ab
-- burinlaw9_RunsTouch: 126, parameters ?; loops burinlaw9_RunsTouch_l0 [1 ?, 3 ?]; burinlaw9_RunsTouch_l1 [1 ?, 3 ?, 4 ?, 5 ?, 6 ?, 7 ?, 8 ?]

def burinlaw9_RunsTouch_l1 : Cd := .seq (.seq (.reg false [1, 3, 4, 5, 6, 7, 8, 69] [⟨some 66, .mv (.t 8), none, 0, []⟩,
    ⟨some 67, .fad 1 (.t 4), none, 0, []⟩,
    ⟨some 68, .load none (.t 67), none, 0, []⟩,
    ⟨some 69, .bin .lss .num (.t 66) (.t 68), none, 0, []⟩])
  (.cond (.t 69) (.skip)
  (.exit 2)))
  (.seq (.block 3 (.reg false [1, 3, 4, 5, 6, 7, 8] [⟨some 72, .mv (.t 7), none, 0, []⟩,
    ⟨some 73, .mv (.t 72), none, 0, []⟩,
    ⟨some 74, .mv (.t 8), some (73, false), 0, []⟩,
    ⟨some 75, .bin .add .num (.t 74) (.c (.int .i64 1)), some (73, false), 0, []⟩,
    ⟨some 76, .fad 0 (.t 5), some (73, false), 0, []⟩,
    ⟨some 77, .load none (.t 76), some (73, false), 0, []⟩,
    ⟨some 78, .bin .geq .num (.t 75) (.t 77), some (73, false), 0, []⟩,
    ⟨some 79, .mv (.t 78), some (73, false), 0, []⟩,
    ⟨some 80, .mv (.t 8), some (79, true), 0, []⟩,
    ⟨some 81, .bin .sub .num (.t 80) (.c (.int .i64 1)), some (79, true), 0, []⟩,
    ⟨some 82, .fad 1 (.t 5), some (79, true), 0, []⟩,
    ⟨some 83, .load none (.t 82), some (79, true), 0, []⟩,
    ⟨some 84, .bin .lss .num (.t 81) (.t 83), some (79, true), 0, []⟩,
    ⟨some 85, .pick (.t 79) (.t 84) (.c (.bool false)), some (73, false), 0, []⟩,
    ⟨some 86, .mv (.t 85), some (73, false), 0, []⟩,
    ⟨some 87, .fad 0 (.t 5), some (86, true), 0, []⟩,
    ⟨some 88, .load none (.t 87), some (86, true), 0, []⟩,
    ⟨some 89, .fad 1 (.t 5), some (86, true), 0, []⟩,
    ⟨some 90, .load none (.t 89), some (86, true), 0, []⟩,
    ⟨some 91, .bin .lss .num (.t 88) (.t 90), some (86, true), 0, []⟩,
    ⟨some 92, .pick (.t 86) (.t 91) (.c (.bool false)), some (73, false), 0, []⟩,
    ⟨some 93, .pick (.t 73) (.c (.bool true)) (.t 92), none, 0, []⟩,
    ⟨some 7, .mv (.t 93), none, 0, []⟩]))
  (.reg false [1, 3, 4, 5, 6, 7, 8] [⟨some 70, .mv (.t 8), none, 0, []⟩,
    ⟨some 71, .bin .add .num (.t 70) (.c (.int .i64 1)), none, 0, []⟩,
    ⟨some 8, .mv (.t 71), none, 0, []⟩]))
def burinlaw9_RunsTouch_l0 : Cd := .seq (.seq (.reg false [1, 3, 17] [⟨some 9, .mv (.t 3), none, 0, []⟩,
    ⟨some 10, .fad 0 (.t 1), none, 0, []⟩,
    ⟨some 11, .load none (.t 10), none, 0, []⟩,
    ⟨some 12, .len none (.t 11), none, 0, []⟩,
    ⟨some 13, .bin .lss .num (.t 9) (.t 12), none, 0, []⟩,
    ⟨some 14, .mv (.t 13), none, 0, []⟩,
    ⟨some 15, .mv (.t 3), some (14, true), 0, []⟩,
    ⟨some 16, .bin .lss .num (.t 15) (.c (.int .i64 60)), some (14, true), 0, []⟩,
    ⟨some 17, .pick (.t 14) (.t 16) (.c (.bool false)), none, 0, []⟩])
  (.cond (.t 17) (.skip)
  (.exit 0)))
  (.seq (.block 1 (.seq (.reg false [1, 3, 4] [⟨some 20, .fad 0 (.t 1), none, 0, []⟩,
    ⟨some 21, .load none (.t 20), none, 0, []⟩,
    ⟨some 22, .mv (.t 3), none, 0, []⟩,
    ⟨some 23, .bin .sub .num (.t 22) (.c (.int .i64 1)), none, 0, []⟩,
    ⟨some 24, .iad none 2 (.t 21) (.t 23), none, 0, []⟩,
    ⟨some 25, .load (some 2) (.t 24), none, 0, []⟩,
    ⟨some 4, .alloc [.int .i64 0, .int .i64 0], none, 0, []⟩,
    ⟨none, .store 2 (.t 4) (.t 25), none, 0, []⟩])
  (.seq (.reg false [1, 3, 4, 5] [⟨some 26, .fad 0 (.t 1), none, 0, []⟩,
    ⟨some 27, .load none (.t 26), none, 0, []⟩,
    ⟨some 28, .mv (.t 3), none, 0, []⟩,
    ⟨some 29, .iad none 2 (.t 27) (.t 28), none, 0, []⟩,
    ⟨some 30, .load (some 2) (.t 29), none, 0, []⟩,
    ⟨some 5, .alloc [.int .i64 0, .int .i64 0], none, 0, []⟩,
    ⟨none, .store 2 (.t 5) (.t 30), none, 0, []⟩])
  (.seq (.reg false [1, 3, 4, 5, 6] [⟨some 31, .load (some 2) (.t 4), none, 0, []⟩,
    ⟨some 32, .load (some 2) (.t 5), none, 0, []⟩,
    ⟨some 33, .call (.f 117) [(.t 31), (.t 32)], none, 0, []⟩,
    ⟨some 6, .mv (.t 33), none, 0, []⟩])
  (.seq (.seq (.reg false [1, 3, 4, 5, 6, 45] [⟨some 34, .mv (.t 6), none, 0, []⟩,
    ⟨some 35, .load (some 2) (.t 4), none, 0, []⟩,
    ⟨some 36, .load (some 2) (.t 5), none, 0, []⟩,
    ⟨some 37, .call (.f 120) [(.t 35), (.t 36)], none, 0, []⟩,
    ⟨some 38, .bin .neq .bool (.t 34) (.t 37), none, 0, []⟩,
    ⟨some 39, .mv (.t 38), none, 0, []⟩,
    ⟨some 40, .mv (.t 6), some (39, false), 0, []⟩,
    ⟨some 41, .load (some 2) (.t 5), some (39, false), 0, []⟩,
    ⟨some 42, .load (some 2) (.t 4), some (39, false), 0, []⟩,
    ⟨some 43, .call (.f 117) [(.t 41), (.t 42)], some (39, false), 0, []⟩,
    ⟨some 44, .bin .neq .bool (.t 40) (.t 43), some (39, false), 0, []⟩,
    ⟨some 45, .pick (.t 39) (.c (.bool true)) (.t 44), none, 0, []⟩])
  (.cond (.t 45) (.seq (.reg false [2] [⟨some 2, .mv (.c (.bool false)), none, 0, []⟩])
  (.ret))
  (.skip)))
  (.seq (.seq (.reg false [1, 3, 4, 5, 6, 63] [⟨some 46, .fad 0 (.t 4), none, 0, []⟩,
    ⟨some 47, .load none (.t 46), none, 0, []⟩,
    ⟨some 48, .bin .lss .num (.t 47) (.c (.int .i64 (-1000))), none, 0, []⟩,
    ⟨some 49, .mv (.t 48), none, 0, []⟩,
    ⟨some 50, .fad 1 (.t 4), some (49, false), 0, []⟩,
    ⟨some 51, .load none (.t 50), some (49, false), 0, []⟩,
    ⟨some 52, .bin .gtr .num (.t 51) (.c (.int .i64 1000)), some (49, false), 0, []⟩,
    ⟨some 53, .pick (.t 49) (.c (.bool true)) (.t 52), none, 0, []⟩,
    ⟨some 54, .mv (.t 53), none, 0, []⟩,
    ⟨some 55, .fad 0 (.t 5), some (54, false), 0, []⟩,
    ⟨some 56, .load none (.t 55), some (54, false), 0, []⟩,
    ⟨some 57, .bin .lss .num (.t 56) (.c (.int .i64 (-1000))), some (54, false), 0, []⟩,
    ⟨some 58, .pick (.t 54) (.c (.bool true)) (.t 57), none, 0, []⟩,
    ⟨some 59, .mv (.t 58), none, 0, []⟩,
    ⟨some 60, .fad 1 (.t 5), some (59, false), 0, []⟩,
    ⟨some 61, .load none (.t 60), some (59, false), 0, []⟩,
    ⟨some 62, .bin .gtr .num (.t 61) (.c (.int .i64 1000)), some (59, false), 0, []⟩,
    ⟨some 63, .pick (.t 59) (.c (.bool true)) (.t 62), none, 0, []⟩])
  (.cond (.t 63) (.exit 1)
  (.skip)))
  (.seq (.reg false [1, 3, 4, 5, 6, 7] [⟨some 7, .mv (.c (.bool false)), none, 0, []⟩])
  (.seq (.seq (.reg false [1, 3, 4, 5, 6, 7, 8] [⟨some 64, .fad 0 (.t 4), none, 0, []⟩,
    ⟨some 65, .load none (.t 64), none, 0, []⟩,
    ⟨some 8, .mv (.t 65), none, 0, []⟩])
  (.block 2 (.loop [1, 3, 4, 5, 6, 7, 8] burinlaw9_RunsTouch_l1)))
  (.seq (.reg false [1, 3, 96] [⟨some 94, .mv (.t 6), none, 0, []⟩,
    ⟨some 95, .mv (.t 7), none, 0, []⟩,
    ⟨some 96, .bin .neq .bool (.t 94) (.t 95), none, 0, []⟩])
  (.cond (.t 96) (.seq (.reg false [2] [⟨some 2, .mv (.c (.bool false)), none, 0, []⟩])
  (.ret))
  (.skip)))))))))))
  (.reg false [1, 3] [⟨some 18, .mv (.t 3), none, 0, []⟩,
    ⟨some 19, .bin .add .num (.t 18) (.c (.int .i64 1)), none, 0, []⟩,
    ⟨some 3, .mv (.t 19), none, 0, []⟩]))
/-- burin/burinlaw9.RunsTouch -/
def burinlaw9_RunsTouch : AFun := ⟨1, 98, true, [.t 2],
  .seq (.reg false [1] [⟨some 1, .box 1 (.t 0), none, 0, []⟩,
    ⟨some 2, .mv (.c (.bool false)), none, 0, []⟩])
  (.seq (.seq (.reg false [1, 3] [⟨some 3, .mv (.c (.int .i64 1)), none, 0, []⟩])
  (.block 0 (.loop [1, 3] burinlaw9_RunsTouch_l0)))
  (.seq (.reg false [2] [⟨some 97, .call (.f 122) [], none, 0, []⟩,
    ⟨some 2, .mv (.t 97), none, 0, []⟩])
  (.ret)))⟩

/-- A program that has them. -/
structure HasL9Touch (P : Prog) : Prop where
  h_burinlaw9_RunsTouch : P 126 = some burinlaw9_RunsTouch

end Go.Ab
