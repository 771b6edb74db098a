/- The texts of functions of the given program, for the abstract machine: written by wip/tools/gen.py out of Lean's print of the translation. Conditions: none; definitions alone. -/
import Derived.Test.YtdkgdneiilnppaaAb
set_option linter.all false
namespace Go.Ab
-- burinlaw2_BitmapEqual: 109, parameters ?; loops burinlaw2_BitmapEqual_l0 [0 ?, 3 ?]; burinlaw2_BitmapEqual_l1 [0 ?, 3 ?, 4 ?]

def burinlaw2_BitmapEqual_l1 : Cd := .seq (.seq (.reg false [0, 3, 4, 17] [⟨some 15, .mv (.t 4), none, 0, []⟩,
    ⟨some 16, .mv (.t 3), none, 0, []⟩,
    ⟨some 17, .bin .leq .num (.t 15) (.t 16), none, 0, []⟩])
  (.cond (.t 17) (.skip)
  (.exit 2)))
  (.seq (.block 3 (.seq (.reg true [0, 3, 4, 66] [⟨some 20, .mv (.t 0), none, 0, []⟩,
    ⟨some 21, .mv (.t 3), none, 1, []⟩,
    ⟨some 22, .iad none 3 (.t 20) (.t 21), none, 2, []⟩,
    ⟨some 23, .load (some 3) (.t 22), none, 3, []⟩,
    ⟨some 24, .mv (.t 0), none, 4, []⟩,
    ⟨some 25, .mv (.t 4), none, 5, []⟩,
    ⟨some 26, .iad none 3 (.t 24) (.t 25), none, 6, []⟩,
    ⟨some 27, .load (some 3) (.t 26), none, 7, []⟩,
    ⟨some 29, .mv (.t 0), none, 9, []⟩,
    ⟨some 30, .mv (.t 3), none, 10, []⟩,
    ⟨some 31, .iad none 3 (.t 29) (.t 30), none, 11, []⟩,
    ⟨some 32, .load (some 3) (.t 31), none, 12, []⟩,
    ⟨some 28, .call (.f 73) [(.t 23), (.t 27)], none, 8, [12]⟩,
    ⟨some 33, .call (.f 76) [(.t 32)], none, 13, []⟩,
    ⟨some 34, .mv (.t 33), none, 14, []⟩,
    ⟨some 35, .mv (.t 0), some (34, true), 15, []⟩,
    ⟨some 36, .mv (.t 3), some (34, true), 16, []⟩,
    ⟨some 37, .iad none 3 (.t 35) (.t 36), some (34, true), 17, []⟩,
    ⟨some 38, .load (some 3) (.t 37), some (34, true), 18, []⟩,
    ⟨some 39, .mv (.t 0), some (34, true), 19, []⟩,
    ⟨some 40, .mv (.t 4), some (34, true), 20, []⟩,
    ⟨some 41, .iad none 3 (.t 39) (.t 40), some (34, true), 21, []⟩,
    ⟨some 42, .load (some 3) (.t 41), some (34, true), 22, []⟩,
    ⟨some 43, .call (.f 84) [(.t 38), (.t 42)], some (34, true), 23, []⟩,
    ⟨some 44, .pick (.t 34) (.t 43) (.c (.bool false)), none, 24, []⟩,
    ⟨some 45, .bin .neq .bool (.t 28) (.t 44), none, 25, []⟩,
    ⟨some 46, .mv (.t 45), none, 26, []⟩,
    ⟨some 47, .mv (.t 0), some (46, false), 27, []⟩,
    ⟨some 48, .mv (.t 3), some (46, false), 28, []⟩,
    ⟨some 49, .iad none 3 (.t 47) (.t 48), some (46, false), 29, []⟩,
    ⟨some 50, .load (some 3) (.t 49), some (46, false), 30, []⟩,
    ⟨some 51, .mv (.t 0), some (46, false), 31, []⟩,
    ⟨some 52, .mv (.t 4), some (46, false), 32, []⟩,
    ⟨some 53, .iad none 3 (.t 51) (.t 52), some (46, false), 33, []⟩,
    ⟨some 54, .load (some 3) (.t 53), some (46, false), 34, []⟩,
    ⟨some 56, .mv (.t 0), some (46, false), 36, []⟩,
    ⟨some 57, .mv (.t 4), some (46, false), 37, []⟩,
    ⟨some 58, .iad none 3 (.t 56) (.t 57), some (46, false), 38, []⟩,
    ⟨some 59, .load (some 3) (.t 58), some (46, false), 39, []⟩,
    ⟨some 60, .mv (.t 0), some (46, false), 40, []⟩,
    ⟨some 61, .mv (.t 3), some (46, false), 41, []⟩,
    ⟨some 62, .iad none 3 (.t 60) (.t 61), some (46, false), 42, []⟩,
    ⟨some 63, .load (some 3) (.t 62), some (46, false), 43, []⟩,
    ⟨some 55, .call (.f 73) [(.t 50), (.t 54)], some (46, false), 35, [39, 43]⟩,
    ⟨some 64, .call (.f 73) [(.t 59), (.t 63)], some (46, false), 44, []⟩,
    ⟨some 65, .bin .neq .bool (.t 55) (.t 64), some (46, false), 45, []⟩,
    ⟨some 66, .pick (.t 46) (.c (.bool true)) (.t 65), none, 46, []⟩])
  (.cond (.t 66) (.seq (.reg false [2] [⟨some 2, .mv (.c (.bool false)), none, 0, []⟩])
  (.ret))
  (.skip))))
  (.reg false [0, 3, 4] [⟨some 18, .mv (.t 4), none, 0, []⟩,
    ⟨some 19, .bin .add .num (.t 18) (.c (.int .i64 1)), none, 0, []⟩,
    ⟨some 4, .mv (.t 19), none, 0, []⟩]))
def burinlaw2_BitmapEqual_l0 : Cd := .seq (.seq (.reg false [0, 3, 12] [⟨some 5, .mv (.t 3), none, 0, []⟩,
    ⟨some 6, .mv (.t 0), none, 0, []⟩,
    ⟨some 7, .len none (.t 6), none, 0, []⟩,
    ⟨some 8, .bin .lss .num (.t 5) (.t 7), none, 0, []⟩,
    ⟨some 9, .mv (.t 8), none, 0, []⟩,
    ⟨some 10, .mv (.t 3), some (9, true), 0, []⟩,
    ⟨some 11, .bin .lss .num (.t 10) (.c (.int .i64 6)), some (9, true), 0, []⟩,
    ⟨some 12, .pick (.t 9) (.t 11) (.c (.bool false)), none, 0, []⟩])
  (.cond (.t 12) (.skip)
  (.exit 0)))
  (.seq (.block 1 (.seq (.reg false [0, 3, 4] [⟨some 4, .mv (.c (.int .i64 0)), none, 0, []⟩])
  (.block 2 (.loop [0, 3, 4] burinlaw2_BitmapEqual_l1))))
  (.reg false [0, 3] [⟨some 13, .mv (.t 3), none, 0, []⟩,
    ⟨some 14, .bin .add .num (.t 13) (.c (.int .i64 1)), none, 0, []⟩,
    ⟨some 3, .mv (.t 14), none, 0, []⟩]))
/-- burin/burinlaw2.BitmapEqual -/
def burinlaw2_BitmapEqual : AFun := ⟨1, 68, true, [.t 2],
  .seq (.reg false [0] [⟨some 2, .mv (.c (.bool false)), none, 0, []⟩])
  (.seq (.seq (.reg false [0, 3] [⟨some 3, .mv (.c (.int .i64 0)), none, 0, []⟩])
  (.block 0 (.loop [0, 3] burinlaw2_BitmapEqual_l0)))
  (.seq (.reg false [2] [⟨some 67, .call (.f 99) [], none, 0, []⟩,
    ⟨some 2, .mv (.t 67), none, 0, []⟩])
  (.ret)))⟩

/-- A program that has them. -/
structure HasL2Equal (P : Prog) : Prop where
  h_burinlaw2_BitmapEqual : P 109 = some burinlaw2_BitmapEqual

end Go.Ab
