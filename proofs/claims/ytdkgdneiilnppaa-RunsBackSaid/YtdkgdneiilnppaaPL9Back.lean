/- The texts of functions of the given program, for the abstract machine: written by wip/tools/gen.py out of Lean's print of the translation. Conditions: none; definitions alone. -/
import Derived.Test.YtdkgdneiilnppaaK1
set_option linter.all false
namespace Go.Ab
-- burinlaw9_RunsBack: 124, parameters ?; loops burinlaw9_RunsBack_l0 [0 ?, 3 ?]

def burinlaw9_RunsBack_l0 : Cd := .seq (.seq (.reg false [0, 3, 15] [⟨some 8, .mv (.t 3), none, 0, []⟩,
    ⟨some 9, .mv (.t 0), none, 0, []⟩,
    ⟨some 10, .len none (.t 9), none, 0, []⟩,
    ⟨some 11, .bin .lss .num (.t 8) (.t 10), none, 0, []⟩,
    ⟨some 12, .mv (.t 11), none, 0, []⟩,
    ⟨some 13, .mv (.t 3), some (12, true), 0, []⟩,
    ⟨some 14, .bin .lss .num (.t 13) (.c (.int .i64 6)), some (12, true), 0, []⟩,
    ⟨some 15, .pick (.t 12) (.t 14) (.c (.bool false)), none, 0, []⟩])
  (.cond (.t 15) (.skip)
  (.exit 0)))
  (.seq (.block 1 (.seq (.seq (.reg true [0, 3, 45] [⟨some 18, .mv (.t 0), none, 0, []⟩,
    ⟨some 19, .mv (.t 3), none, 1, []⟩,
    ⟨some 20, .iad none 2 (.t 18) (.t 19), none, 2, []⟩,
    ⟨some 21, .fad 1 (.t 20), none, 3, []⟩,
    ⟨some 22, .load none (.t 21), none, 4, []⟩,
    ⟨some 23, .mv (.t 0), none, 5, []⟩,
    ⟨some 24, .mv (.t 3), none, 6, []⟩,
    ⟨some 25, .iad none 2 (.t 23) (.t 24), none, 7, []⟩,
    ⟨some 26, .fad 0 (.t 25), none, 8, []⟩,
    ⟨some 27, .load none (.t 26), none, 9, []⟩,
    ⟨some 28, .len none (.t 27), none, 10, []⟩,
    ⟨some 29, .call (.f 74) [(.t 22), (.t 28)], none, 11, []⟩,
    ⟨some 30, .mv (.t 29), none, 12, []⟩,
    ⟨some 31, .mv (.t 0), some (30, true), 13, []⟩,
    ⟨some 32, .mv (.t 3), some (30, true), 14, []⟩,
    ⟨some 33, .iad none 2 (.t 31) (.t 32), some (30, true), 15, []⟩,
    ⟨some 34, .fad 1 (.t 33), some (30, true), 16, []⟩,
    ⟨some 35, .load none (.t 34), some (30, true), 17, []⟩,
    ⟨some 36, .bin .add .num (.t 35) (.c (.int .i64 64)), some (30, true), 18, []⟩,
    ⟨some 37, .mv (.t 0), some (30, true), 19, []⟩,
    ⟨some 38, .mv (.t 3), some (30, true), 20, []⟩,
    ⟨some 39, .iad none 2 (.t 37) (.t 38), some (30, true), 21, []⟩,
    ⟨some 40, .fad 0 (.t 39), some (30, true), 22, []⟩,
    ⟨some 41, .load none (.t 40), some (30, true), 23, []⟩,
    ⟨some 42, .len none (.t 41), some (30, true), 24, []⟩,
    ⟨some 43, .bin .mul .num (.t 36) (.t 42), some (30, true), 25, []⟩,
    ⟨some 44, .bin .gtr .num (.t 43) (.c (.int .i64 60000)), some (30, true), 26, []⟩,
    ⟨some 45, .pick (.t 30) (.t 44) (.c (.bool false)), none, 27, []⟩])
  (.cond (.t 45) (.exit 1)
  (.skip)))
  (.seq (.reg true [0, 3, 4, 5] [⟨some 47, .mv (.t 0), none, 0, []⟩,
    ⟨some 48, .mv (.t 3), none, 1, []⟩,
    ⟨some 49, .iad none 2 (.t 47) (.t 48), none, 2, []⟩,
    ⟨some 50, .fad 0 (.t 49), none, 3, []⟩,
    ⟨some 51, .load none (.t 50), none, 4, []⟩,
    ⟨some 52, .mv (.t 0), none, 5, []⟩,
    ⟨some 53, .mv (.t 3), none, 6, []⟩,
    ⟨some 54, .iad none 2 (.t 52) (.t 53), none, 7, []⟩,
    ⟨some 55, .fad 1 (.t 54), none, 8, []⟩,
    ⟨some 56, .load none (.t 55), none, 9, []⟩,
    ⟨some 4, .alloc [.int .i64 0, .int .i64 0, .sl none 0 0 0], none, 14, []⟩,
    ⟨some 57, .call (.f 116) [(.t 51), (.t 56)], none, 10, [14]⟩,
    ⟨some 46, .mv (.t 57), none, 11, []⟩,
    ⟨some 58, .ext 0 (.t 46), none, 12, []⟩,
    ⟨some 59, .ext 1 (.t 46), none, 13, []⟩,
    ⟨none, .store 3 (.t 4) (.t 58), none, 15, []⟩,
    ⟨some 5, .mv (.t 59), none, 16, []⟩])
  (.seq (.reg true [0, 3, 4, 5, 6, 7] [⟨some 61, .mv (.t 0), none, 0, []⟩,
    ⟨some 62, .mv (.t 3), none, 1, []⟩,
    ⟨some 63, .iad none 2 (.t 61) (.t 62), none, 2, []⟩,
    ⟨some 64, .fad 0 (.t 63), none, 3, []⟩,
    ⟨some 65, .load none (.t 64), none, 4, []⟩,
    ⟨some 66, .mv (.t 0), none, 5, []⟩,
    ⟨some 67, .mv (.t 3), none, 6, []⟩,
    ⟨some 68, .iad none 2 (.t 66) (.t 67), none, 7, []⟩,
    ⟨some 69, .fad 1 (.t 68), none, 8, []⟩,
    ⟨some 70, .load none (.t 69), none, 9, []⟩,
    ⟨some 6, .alloc [.int .i64 0, .int .i64 0, .sl none 0 0 0], none, 14, []⟩,
    ⟨some 71, .call (.f 119) [(.t 65), (.t 70)], none, 10, [14]⟩,
    ⟨some 60, .mv (.t 71), none, 11, []⟩,
    ⟨some 72, .ext 0 (.t 60), none, 12, []⟩,
    ⟨some 73, .ext 1 (.t 60), none, 13, []⟩,
    ⟨none, .store 3 (.t 6) (.t 72), none, 15, []⟩,
    ⟨some 7, .mv (.t 73), none, 16, []⟩])
  (.seq (.reg false [0, 3, 82] [⟨some 74, .mv (.t 5), none, 0, []⟩,
    ⟨some 75, .mv (.t 7), none, 0, []⟩,
    ⟨some 76, .bin .neq .num (.t 74) (.t 75), none, 0, []⟩,
    ⟨some 77, .mv (.t 76), none, 0, []⟩,
    ⟨some 78, .load (some 3) (.t 4), some (77, false), 0, []⟩,
    ⟨some 79, .load (some 3) (.t 6), some (77, false), 0, []⟩,
    ⟨some 80, .call (.f 84) [(.t 78), (.t 79)], some (77, false), 0, []⟩,
    ⟨some 81, .un .not (.t 80), some (77, false), 0, []⟩,
    ⟨some 82, .pick (.t 77) (.c (.bool true)) (.t 81), none, 0, []⟩])
  (.cond (.t 82) (.seq (.reg false [2] [⟨some 2, .mv (.c (.bool false)), none, 0, []⟩])
  (.ret))
  (.skip)))))))
  (.reg false [0, 3] [⟨some 16, .mv (.t 3), none, 0, []⟩,
    ⟨some 17, .bin .add .num (.t 16) (.c (.int .i64 1)), none, 0, []⟩,
    ⟨some 3, .mv (.t 17), none, 0, []⟩]))
/-- burin/burinlaw9.RunsBack -/
def burinlaw9_RunsBack : AFun := ⟨1, 84, true, [.t 2],
  .seq (.reg false [0] [⟨some 2, .mv (.c (.bool false)), none, 0, []⟩])
  (.seq (.seq (.reg false [0, 3] [⟨some 3, .mv (.c (.int .i64 0)), none, 0, []⟩])
  (.block 0 (.loop [0, 3] burinlaw9_RunsBack_l0)))
  (.seq (.reg false [2] [⟨some 83, .call (.f 122) [], none, 0, []⟩,
    ⟨some 2, .mv (.t 83), none, 0, []⟩])
  (.ret)))⟩

/-- A program that has them. -/
structure HasL9Back (P : Prog) : Prop where
  h_burinlaw9_RunsBack : P 124 = some burinlaw9_RunsBack

end Go.Ab
