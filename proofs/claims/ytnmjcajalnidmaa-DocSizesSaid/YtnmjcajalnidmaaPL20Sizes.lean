/- The texts of functions of the given program, for the abstract machine: written by wip/tools/gen.py out of Lean's print of the translation. Conditions: none; definitions alone. -/
import Derived.Test.YtnmjcajalnidmaaK1
set_option linter.all false
namespace Go.Ab
-- burinlaw20_DocSizes: 147, parameters ?; loops burinlaw20_DocSizes_l0 [1 ?, 3 ?, 4 ?, 5 ?, 6 ?]

def burinlaw20_DocSizes_l0 : Cd := .seq (.seq (.reg false [1, 3, 4, 5, 6, 30] [⟨some 15, .mv (.t 6), none, 0, []⟩,
    ⟨some 16, .fad 0 (.t 1), none, 0, []⟩,
    ⟨some 17, .load none (.t 16), none, 0, []⟩,
    ⟨some 18, .len none (.t 17), none, 0, []⟩,
    ⟨some 19, .bin .lss .num (.t 15) (.t 18), none, 0, []⟩,
    ⟨some 20, .mv (.t 19), none, 0, []⟩,
    ⟨some 21, .mv (.t 6), some (20, true), 0, []⟩,
    ⟨some 22, .fad 1 (.t 1), some (20, true), 0, []⟩,
    ⟨some 23, .load none (.t 22), some (20, true), 0, []⟩,
    ⟨some 24, .len none (.t 23), some (20, true), 0, []⟩,
    ⟨some 25, .bin .lss .num (.t 21) (.t 24), some (20, true), 0, []⟩,
    ⟨some 26, .pick (.t 20) (.t 25) (.c (.bool false)), none, 0, []⟩,
    ⟨some 27, .mv (.t 26), none, 0, []⟩,
    ⟨some 28, .mv (.t 6), some (27, true), 0, []⟩,
    ⟨some 29, .bin .lss .num (.t 28) (.c (.int .i64 100)), some (27, true), 0, []⟩,
    ⟨some 30, .pick (.t 27) (.t 29) (.c (.bool false)), none, 0, []⟩])
  (.cond (.t 30) (.skip)
  (.exit 0)))
  (.seq (.block 1 (.seq (.reg false [1, 3, 4, 5, 6, 7] [⟨some 33, .fad 0 (.t 1), none, 0, []⟩,
    ⟨some 34, .load none (.t 33), none, 0, []⟩,
    ⟨some 35, .mv (.t 6), none, 0, []⟩,
    ⟨some 36, .iad none 1 (.t 34) (.t 35), none, 0, []⟩,
    ⟨some 37, .load none (.t 36), none, 0, []⟩,
    ⟨some 7, .mv (.t 37), none, 0, []⟩])
  (.seq (.reg false [1, 3, 4, 5, 6, 7, 8] [⟨some 38, .fad 1 (.t 1), none, 0, []⟩,
    ⟨some 39, .load none (.t 38), none, 0, []⟩,
    ⟨some 40, .mv (.t 6), none, 0, []⟩,
    ⟨some 41, .iad none 1 (.t 39) (.t 40), none, 0, []⟩,
    ⟨some 42, .load none (.t 41), none, 0, []⟩,
    ⟨some 8, .mv (.t 42), none, 0, []⟩])
  (.seq (.seq (.reg false [1, 3, 4, 5, 6, 7, 8, 45] [⟨some 43, .mv (.t 7), none, 0, []⟩,
    ⟨some 44, .mv (.t 8), none, 0, []⟩,
    ⟨some 45, .call (.f 74) [(.t 43), (.t 44)], none, 0, []⟩])
  (.cond (.t 45) (.reg false [1, 3, 4, 5, 6, 7, 8] [⟨some 46, .mv (.t 5), none, 0, []⟩,
    ⟨some 47, .mv (.t 7), none, 0, []⟩,
    ⟨some 48, .mv (.t 8), none, 0, []⟩,
    ⟨some 49, .bin .mul .num (.t 47) (.t 48), none, 0, []⟩,
    ⟨some 50, .bin .add .num (.t 46) (.t 49), none, 0, []⟩,
    ⟨some 51, .mv (.t 8), none, 0, []⟩,
    ⟨some 52, .bin .mul .num (.c (.int .i64 64)) (.t 51), none, 0, []⟩,
    ⟨some 53, .bin .add .num (.t 50) (.t 52), none, 0, []⟩,
    ⟨some 5, .mv (.t 53), none, 0, []⟩])
  (.skip)))
  (.seq (.seq (.reg false [1, 3, 4, 5, 6, 7, 8, 55] [⟨some 54, .mv (.t 5), none, 0, []⟩,
    ⟨some 55, .bin .gtr .num (.t 54) (.c (.int .i64 4194304)), none, 0, []⟩])
  (.cond (.t 55) (.exit 0)
  (.skip)))
  (.seq (.reg false [1, 3, 4, 5, 6, 7, 8, 9, 10] [⟨some 57, .mv (.t 3), none, 0, []⟩,
    ⟨some 58, .mv (.t 7), none, 0, []⟩,
    ⟨some 59, .mv (.t 8), none, 0, []⟩,
    ⟨some 60, .call (.f 133) [(.t 57), (.t 58), (.t 59)], none, 0, []⟩,
    ⟨some 56, .mv (.t 60), none, 0, []⟩,
    ⟨some 61, .ext 0 (.t 56), none, 0, []⟩,
    ⟨some 62, .ext 1 (.t 56), none, 0, []⟩,
    ⟨some 9, .mv (.t 61), none, 0, []⟩,
    ⟨some 10, .mv (.t 62), none, 0, []⟩])
  (.seq (.reg false [1, 3, 4, 5, 6, 7, 8, 9, 10, 11] [⟨some 11, .mv (.c (.int .i64 0)), none, 0, []⟩])
  (.seq (.seq (.reg false [1, 3, 4, 5, 6, 9, 10, 11, 82] [⟨some 63, .mv (.t 7), none, 0, []⟩,
    ⟨some 64, .bin .lss .num (.t 63) (.c (.int .i64 1)), none, 0, []⟩,
    ⟨some 65, .mv (.t 64), none, 0, []⟩,
    ⟨some 66, .mv (.t 8), some (65, false), 0, []⟩,
    ⟨some 67, .bin .lss .num (.t 66) (.c (.int .i64 1)), some (65, false), 0, []⟩,
    ⟨some 68, .pick (.t 65) (.c (.bool true)) (.t 67), none, 0, []⟩,
    ⟨some 69, .mv (.t 68), none, 0, []⟩,
    ⟨some 70, .mv (.t 7), some (69, false), 0, []⟩,
    ⟨some 71, .bin .gtr .num (.t 70) (.c (.int .i64 1048576)), some (69, false), 0, []⟩,
    ⟨some 72, .pick (.t 69) (.c (.bool true)) (.t 71), none, 0, []⟩,
    ⟨some 73, .mv (.t 72), none, 0, []⟩,
    ⟨some 74, .mv (.t 8), some (73, false), 0, []⟩,
    ⟨some 75, .bin .gtr .num (.t 74) (.c (.int .i64 1048576)), some (73, false), 0, []⟩,
    ⟨some 76, .pick (.t 73) (.c (.bool true)) (.t 75), none, 0, []⟩,
    ⟨some 77, .mv (.t 76), none, 0, []⟩,
    ⟨some 78, .mv (.t 7), some (77, false), 0, []⟩,
    ⟨some 79, .mv (.t 8), some (77, false), 0, []⟩,
    ⟨some 80, .bin .mul .num (.t 78) (.t 79), some (77, false), 0, []⟩,
    ⟨some 81, .bin .gtr .num (.t 80) (.c (.int .i64 1048576)), some (77, false), 0, []⟩,
    ⟨some 82, .pick (.t 77) (.c (.bool true)) (.t 81), none, 0, []⟩])
  (.cond (.t 82) (.reg false [1, 3, 4, 5, 6, 9, 10, 11] [⟨some 11, .mv (.c (.int .i64 180)), none, 0, []⟩])
  (.seq (.reg false [1, 3, 4, 5, 6, 9, 10, 11, 84] [⟨some 83, .mv (.t 4), none, 0, []⟩,
    ⟨some 84, .bin .eql .num (.t 83) (.c (.int .i64 64)), none, 0, []⟩])
  (.cond (.t 84) (.reg false [1, 3, 4, 5, 6, 9, 10, 11] [⟨some 11, .mv (.c (.int .i64 181)), none, 0, []⟩])
  (.skip)))))
  (.seq (.seq (.reg false [1, 3, 4, 5, 6, 10, 104] [⟨some 85, .mv (.t 10), none, 0, []⟩,
    ⟨some 86, .mv (.t 11), none, 0, []⟩,
    ⟨some 87, .bin .neq .num (.t 85) (.t 86), none, 0, []⟩,
    ⟨some 88, .mv (.t 87), none, 0, []⟩,
    ⟨some 89, .mv (.t 10), some (88, false), 0, []⟩,
    ⟨some 90, .bin .eql .num (.t 89) (.c (.int .i64 0)), some (88, false), 0, []⟩,
    ⟨some 91, .mv (.t 90), some (88, false), 0, []⟩,
    ⟨some 92, .mv (.t 9), some (91, true), 0, []⟩,
    ⟨some 93, .mv (.t 4), some (91, true), 0, []⟩,
    ⟨some 94, .bin .neq .num (.t 92) (.t 93), some (91, true), 0, []⟩,
    ⟨some 95, .pick (.t 91) (.t 94) (.c (.bool false)), some (88, false), 0, []⟩,
    ⟨some 96, .pick (.t 88) (.c (.bool true)) (.t 95), none, 0, []⟩,
    ⟨some 97, .mv (.t 96), none, 0, []⟩,
    ⟨some 98, .mv (.t 10), some (97, false), 0, []⟩,
    ⟨some 99, .bin .neq .num (.t 98) (.c (.int .i64 0)), some (97, false), 0, []⟩,
    ⟨some 100, .mv (.t 99), some (97, false), 0, []⟩,
    ⟨some 101, .mv (.t 9), some (100, true), 0, []⟩,
    ⟨some 102, .bin .neq .num (.t 101) (.c (.int .i64 0)), some (100, true), 0, []⟩,
    ⟨some 103, .pick (.t 100) (.t 102) (.c (.bool false)), some (97, false), 0, []⟩,
    ⟨some 104, .pick (.t 97) (.c (.bool true)) (.t 103), none, 0, []⟩])
  (.cond (.t 104) (.seq (.reg false [2] [⟨some 2, .mv (.c (.bool false)), none, 0, []⟩])
  (.ret))
  (.skip)))
  (.seq (.seq (.reg false [1, 3, 4, 5, 6, 106] [⟨some 105, .mv (.t 10), none, 0, []⟩,
    ⟨some 106, .bin .eql .num (.t 105) (.c (.int .i64 0)), none, 0, []⟩])
  (.cond (.t 106) (.reg false [1, 3, 4, 5, 6] [⟨some 107, .mv (.t 4), none, 0, []⟩,
    ⟨some 108, .bin .add .num (.t 107) (.c (.int .i64 1)), none, 0, []⟩,
    ⟨some 4, .mv (.t 108), none, 0, []⟩])
  (.skip)))
  (.seq (.reg false [1, 3, 4, 5, 6, 112] [⟨some 109, .mv (.t 3), none, 0, []⟩,
    ⟨some 110, .call (.f 134) [(.t 109)], none, 0, []⟩,
    ⟨some 111, .mv (.t 4), none, 0, []⟩,
    ⟨some 112, .bin .neq .num (.t 110) (.t 111), none, 0, []⟩])
  (.cond (.t 112) (.seq (.reg false [2] [⟨some 2, .mv (.c (.bool false)), none, 0, []⟩])
  (.ret))
  (.skip)))))))))))))
  (.reg false [1, 3, 4, 5, 6] [⟨some 31, .mv (.t 6), none, 0, []⟩,
    ⟨some 32, .bin .add .num (.t 31) (.c (.int .i64 1)), none, 0, []⟩,
    ⟨some 6, .mv (.t 32), none, 0, []⟩]))
/-- burin/burinlaw20.DocSizes -/
def burinlaw20_DocSizes : AFun := ⟨1, 114, true, [.t 2],
  .seq (.reg false [1] [⟨some 1, .box 2 (.t 0), none, 0, []⟩,
    ⟨some 2, .mv (.c (.bool false)), none, 0, []⟩])
  (.seq (.reg false [1, 3] [⟨some 12, .call (.f 128) [], none, 0, []⟩,
    ⟨some 3, .mv (.t 12), none, 0, []⟩])
  (.seq (.seq (.reg false [1, 3, 14] [⟨some 13, .mv (.t 3), none, 0, []⟩,
    ⟨some 14, .bin .eql .ptr (.t 13) (.c (.ptr none)), none, 0, []⟩])
  (.cond (.t 14) (.seq (.reg false [2] [⟨some 2, .mv (.c (.bool false)), none, 0, []⟩])
  (.ret))
  (.skip)))
  (.seq (.reg false [1, 3, 4] [⟨some 4, .mv (.c (.int .i64 0)), none, 0, []⟩])
  (.seq (.reg false [1, 3, 4, 5] [⟨some 5, .mv (.c (.int .i64 0)), none, 0, []⟩])
  (.seq (.seq (.reg false [1, 3, 4, 5, 6] [⟨some 6, .mv (.c (.int .i64 0)), none, 0, []⟩])
  (.block 0 (.loop [1, 3, 4, 5, 6] burinlaw20_DocSizes_l0)))
  (.seq (.reg false [2] [⟨some 113, .call (.f 146) [], none, 0, []⟩,
    ⟨some 2, .mv (.t 113), none, 0, []⟩])
  (.ret)))))))⟩

/-- A program that has them. -/
structure HasL20Sizes (P : Prog) : Prop where
  h_burinlaw20_DocSizes : P 147 = some burinlaw20_DocSizes

end Go.Ab
