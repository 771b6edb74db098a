/- The texts of functions of the given program, for the abstract machine: written by wip/tools/gen.py out of Lean's print of the translation. Conditions: none; definitions alone. -/
import Derived.Test.YtfgecfbknpifjaaK1
set_option linter.all false
namespace Go.Ab
-- burinlaw10_CompsBack: 192, parameters ?; loops burinlaw10_CompsBack_l0 [1 ?, 3 ?, 4 ?]

def burinlaw10_CompsBack_l0 : Cd := .seq (.seq (.reg false [1, 3, 4, 29] [⟨some 25, .mv (.t 4), none, 0, []⟩,
    ⟨some 26, .fad 0 (.t 1), none, 0, []⟩,
    ⟨some 27, .load none (.t 26), none, 0, []⟩,
    ⟨some 28, .len none (.t 27), none, 0, []⟩,
    ⟨some 29, .bin .lss .num (.t 25) (.t 28), none, 0, []⟩])
  (.cond (.t 29) (.skip)
  (.exit 0)))
  (.seq (.block 1 (.seq (.reg false [1, 3, 4] [⟨some 32, .mv (.t 3), none, 0, []⟩,
    ⟨some 33, .fad 0 (.t 1), none, 0, []⟩,
    ⟨some 34, .load none (.t 33), none, 0, []⟩,
    ⟨some 35, .mv (.t 4), none, 0, []⟩,
    ⟨some 36, .iad none 5 (.t 34) (.t 35), none, 0, []⟩,
    ⟨some 37, .fad 2 (.t 36), none, 0, []⟩,
    ⟨some 38, .fad 2 (.t 37), none, 0, []⟩,
    ⟨some 39, .load none (.t 38), none, 0, []⟩,
    ⟨some 40, .len none (.t 39), none, 0, []⟩,
    ⟨some 41, .bin .mul .num (.c (.int .i64 64)) (.t 40), none, 0, []⟩,
    ⟨some 42, .bin .add .num (.t 32) (.t 41), none, 0, []⟩,
    ⟨some 3, .mv (.t 42), none, 0, []⟩])
  (.seq (.reg false [1, 3, 4, 44] [⟨some 43, .mv (.t 3), none, 0, []⟩,
    ⟨some 44, .bin .gtr .num (.t 43) (.c (.int .i64 20000)), none, 0, []⟩])
  (.cond (.t 44) (.seq (.reg false [2] [⟨some 45, .call (.f 178) [], none, 0, []⟩,
    ⟨some 2, .mv (.t 45), none, 0, []⟩])
  (.ret))
  (.skip)))))
  (.reg false [1, 3, 4] [⟨some 30, .mv (.t 4), none, 0, []⟩,
    ⟨some 31, .bin .add .num (.t 30) (.c (.int .i64 1)), none, 0, []⟩,
    ⟨some 4, .mv (.t 31), none, 0, []⟩]))
/-- burin/burinlaw10.CompsBack -/
def burinlaw10_CompsBack : AFun := ⟨1, 85, true, [.t 2],
  .seq (.reg false [1] [⟨some 1, .box 3 (.t 0), none, 0, []⟩,
    ⟨some 2, .mv (.c (.bool false)), none, 0, []⟩])
  (.seq (.seq (.reg false [1, 23] [⟨some 10, .fad 1 (.t 1), none, 0, []⟩,
    ⟨some 11, .load none (.t 10), none, 0, []⟩,
    ⟨some 12, .fad 2 (.t 1), none, 0, []⟩,
    ⟨some 13, .load none (.t 12), none, 0, []⟩,
    ⟨some 14, .call (.f 74) [(.t 11), (.t 13)], none, 0, []⟩,
    ⟨some 15, .mv (.t 14), none, 0, []⟩,
    ⟨some 16, .fad 1 (.t 1), some (15, true), 0, []⟩,
    ⟨some 17, .load none (.t 16), some (15, true), 0, []⟩,
    ⟨some 18, .bin .add .num (.t 17) (.c (.int .i64 64)), some (15, true), 0, []⟩,
    ⟨some 19, .fad 2 (.t 1), some (15, true), 0, []⟩,
    ⟨some 20, .load none (.t 19), some (15, true), 0, []⟩,
    ⟨some 21, .bin .mul .num (.t 18) (.t 20), some (15, true), 0, []⟩,
    ⟨some 22, .bin .gtr .num (.t 21) (.c (.int .i64 20000)), some (15, true), 0, []⟩,
    ⟨some 23, .pick (.t 15) (.t 22) (.c (.bool false)), none, 0, []⟩])
  (.cond (.t 23) (.seq (.reg false [2] [⟨some 24, .call (.f 178) [], none, 0, []⟩,
    ⟨some 2, .mv (.t 24), none, 0, []⟩])
  (.ret))
  (.skip)))
  (.seq (.reg false [1, 3] [⟨some 3, .mv (.c (.int .i64 0)), none, 0, []⟩])
  (.seq (.seq (.reg false [1, 3, 4] [⟨some 4, .mv (.c (.int .i64 0)), none, 0, []⟩])
  (.block 0 (.loop [1, 3, 4] burinlaw10_CompsBack_l0)))
  (.seq (.reg false [1, 5] [⟨some 46, .fad 0 (.t 1), none, 0, []⟩,
    ⟨some 47, .load none (.t 46), none, 0, []⟩,
    ⟨some 48, .call (.f 191) [(.t 47)], none, 0, []⟩,
    ⟨some 5, .mv (.t 48), none, 0, []⟩])
  (.seq (.reg false [1, 5, 6, 7] [⟨some 50, .mv (.t 5), none, 0, []⟩,
    ⟨some 51, .fad 1 (.t 1), none, 0, []⟩,
    ⟨some 52, .load none (.t 51), none, 0, []⟩,
    ⟨some 53, .fad 2 (.t 1), none, 0, []⟩,
    ⟨some 54, .load none (.t 53), none, 0, []⟩,
    ⟨some 55, .call (.f 184) [(.t 50), (.t 52), (.t 54)], none, 0, []⟩,
    ⟨some 49, .mv (.t 55), none, 0, []⟩,
    ⟨some 56, .ext 0 (.t 49), none, 0, []⟩,
    ⟨some 57, .ext 1 (.t 49), none, 0, []⟩,
    ⟨some 6, .alloc [.int .i64 0, .int .i64 0, .sl none 0 0 0], none, 0, []⟩,
    ⟨none, .store 3 (.t 6) (.t 56), none, 0, []⟩,
    ⟨some 7, .mv (.t 57), none, 0, []⟩])
  (.seq (.reg false [1, 5, 6, 7, 8, 9] [⟨some 59, .fad 0 (.t 1), none, 0, []⟩,
    ⟨some 60, .load none (.t 59), none, 0, []⟩,
    ⟨some 61, .fad 1 (.t 1), none, 0, []⟩,
    ⟨some 62, .load none (.t 61), none, 0, []⟩,
    ⟨some 63, .fad 2 (.t 1), none, 0, []⟩,
    ⟨some 64, .load none (.t 63), none, 0, []⟩,
    ⟨some 65, .call (.f 190) [(.t 60), (.t 62), (.t 64)], none, 0, []⟩,
    ⟨some 58, .mv (.t 65), none, 0, []⟩,
    ⟨some 66, .ext 0 (.t 58), none, 0, []⟩,
    ⟨some 67, .ext 1 (.t 58), none, 0, []⟩,
    ⟨some 8, .alloc [.int .i64 0, .int .i64 0, .sl none 0 0 0], none, 0, []⟩,
    ⟨none, .store 3 (.t 8) (.t 66), none, 0, []⟩,
    ⟨some 9, .mv (.t 67), none, 0, []⟩])
  (.seq (.reg false [2] [⟨some 68, .mv (.t 7), none, 0, []⟩,
    ⟨some 69, .mv (.t 9), none, 0, []⟩,
    ⟨some 70, .bin .eql .num (.t 68) (.t 69), none, 0, []⟩,
    ⟨some 71, .mv (.t 70), none, 0, []⟩,
    ⟨some 72, .load (some 3) (.t 6), some (71, true), 0, []⟩,
    ⟨some 73, .load (some 3) (.t 8), some (71, true), 0, []⟩,
    ⟨some 74, .call (.f 84) [(.t 72), (.t 73)], some (71, true), 0, []⟩,
    ⟨some 75, .pick (.t 71) (.t 74) (.c (.bool false)), none, 0, []⟩,
    ⟨some 76, .mv (.t 75), none, 0, []⟩,
    ⟨some 77, .mv (.t 5), some (76, true), 0, []⟩,
    ⟨some 78, .fad 0 (.t 1), some (76, true), 0, []⟩,
    ⟨some 79, .load none (.t 78), some (76, true), 0, []⟩,
    ⟨some 80, .call (.f 180) [(.t 77), (.t 79)], some (76, true), 0, []⟩,
    ⟨some 81, .pick (.t 76) (.t 80) (.c (.bool false)), none, 0, []⟩,
    ⟨some 82, .mv (.t 81), none, 0, []⟩,
    ⟨some 83, .call (.f 178) [], some (82, true), 0, []⟩,
    ⟨some 84, .pick (.t 82) (.t 83) (.c (.bool false)), none, 0, []⟩,
    ⟨some 2, .mv (.t 84), none, 0, []⟩])
  (.ret))))))))⟩

/-- A program that has them. -/
structure HasL10Back (P : Prog) : Prop where
  h_burinlaw10_CompsBack : P 192 = some burinlaw10_CompsBack

end Go.Ab
