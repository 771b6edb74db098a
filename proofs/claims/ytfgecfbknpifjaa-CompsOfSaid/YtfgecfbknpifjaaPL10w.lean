/- The texts of functions of the given program, for the abstract machine: written by wip/tools/gen.py out of Lean's print of the translation. Conditions: none; definitions alone. -/
import Derived.Test.YtfgecfbknpifjaaK1
set_option linter.all false
namespace Go.Ab
-- burinlaw10_wakes: 178, parameters ; loops 

/-- burin/burinlaw10.wakes -/
def burinlaw10_wakes : AFun := ⟨0, 70, true, [.t 0],
  .seq (.reg false [] [⟨some 0, .mv (.c (.bool false)), none, 0, []⟩])
  (.seq (.reg false [1] [⟨some 6, .bslice 1 [.int .u64 0] 2 [(0, (.c (.int .u64 2305843009213693952))), (1, (.c (.int .u64 11529215046068469760)))], none, 0, []⟩,
    ⟨some 7, .build [.int .i64 0, .int .i64 0, .sl none 0 0 0] [(0, 1, (.c (.int .i64 3))), (1, 1, (.c (.int .i64 2))), (2, 1, (.t 6))], none, 0, []⟩,
    ⟨some 1, .alloc [.int .i64 0, .int .i64 0, .sl none 0 0 0], none, 0, []⟩,
    ⟨none, .store 3 (.t 1) (.t 7), none, 0, []⟩])
  (.seq (.reg false [1, 2, 3] [⟨some 9, .load (some 3) (.t 1), none, 0, []⟩,
    ⟨some 10, .call (.f 181) [(.t 9)], none, 0, []⟩,
    ⟨some 8, .mv (.t 10), none, 0, []⟩,
    ⟨some 11, .ext 0 (.t 8), none, 0, []⟩,
    ⟨some 12, .ext 1 (.t 8), none, 0, []⟩,
    ⟨some 2, .mv (.t 11), none, 0, []⟩,
    ⟨some 3, .mv (.t 12), none, 0, []⟩])
  (.seq (.reg false [1, 2, 3, 4, 5] [⟨some 14, .mv (.t 2), none, 0, []⟩,
    ⟨some 15, .call (.f 184) [(.t 14), (.c (.int .i64 3)), (.c (.int .i64 2))], none, 0, []⟩,
    ⟨some 13, .mv (.t 15), none, 0, []⟩,
    ⟨some 16, .ext 0 (.t 13), none, 0, []⟩,
    ⟨some 17, .ext 1 (.t 13), none, 0, []⟩,
    ⟨some 4, .alloc [.int .i64 0, .int .i64 0, .sl none 0 0 0], none, 0, []⟩,
    ⟨none, .store 3 (.t 4) (.t 16), none, 0, []⟩,
    ⟨some 5, .mv (.t 17), none, 0, []⟩])
  (.seq (.reg false [0] [⟨some 18, .mv (.t 3), none, 0, []⟩,
    ⟨some 19, .bin .eql .num (.t 18) (.c (.int .i64 0)), none, 0, []⟩,
    ⟨some 20, .mv (.t 19), none, 0, []⟩,
    ⟨some 21, .mv (.t 5), some (20, true), 0, []⟩,
    ⟨some 22, .bin .eql .num (.t 21) (.c (.int .i64 0)), some (20, true), 0, []⟩,
    ⟨some 23, .pick (.t 20) (.t 22) (.c (.bool false)), none, 0, []⟩,
    ⟨some 24, .mv (.t 23), none, 0, []⟩,
    ⟨some 25, .mv (.t 2), some (24, true), 0, []⟩,
    ⟨some 26, .len none (.t 25), some (24, true), 0, []⟩,
    ⟨some 27, .bin .eql .num (.t 26) (.c (.int .i64 2)), some (24, true), 0, []⟩,
    ⟨some 28, .pick (.t 24) (.t 27) (.c (.bool false)), none, 0, []⟩,
    ⟨some 29, .mv (.t 28), none, 0, []⟩,
    ⟨some 30, .mv (.t 2), some (29, true), 0, []⟩,
    ⟨some 31, .iad none 5 (.t 30) (.c (.int .i64 0)), some (29, true), 0, []⟩,
    ⟨some 32, .fad 0 (.t 31), some (29, true), 0, []⟩,
    ⟨some 33, .load none (.t 32), some (29, true), 0, []⟩,
    ⟨some 34, .bin .eql .num (.t 33) (.c (.int .i64 2)), some (29, true), 0, []⟩,
    ⟨some 35, .pick (.t 29) (.t 34) (.c (.bool false)), none, 0, []⟩,
    ⟨some 36, .mv (.t 35), none, 0, []⟩,
    ⟨some 37, .mv (.t 2), some (36, true), 0, []⟩,
    ⟨some 38, .iad none 5 (.t 37) (.c (.int .i64 0)), some (36, true), 0, []⟩,
    ⟨some 39, .fad 1 (.t 38), some (36, true), 0, []⟩,
    ⟨some 40, .load none (.t 39), some (36, true), 0, []⟩,
    ⟨some 41, .bin .eql .num (.t 40) (.c (.int .i64 0)), some (36, true), 0, []⟩,
    ⟨some 42, .pick (.t 36) (.t 41) (.c (.bool false)), none, 0, []⟩,
    ⟨some 43, .mv (.t 42), none, 0, []⟩,
    ⟨some 44, .mv (.t 2), some (43, true), 0, []⟩,
    ⟨some 45, .iad none 5 (.t 44) (.c (.int .i64 1)), some (43, true), 0, []⟩,
    ⟨some 46, .fad 0 (.t 45), some (43, true), 0, []⟩,
    ⟨some 47, .load none (.t 46), some (43, true), 0, []⟩,
    ⟨some 48, .bin .eql .num (.t 47) (.c (.int .i64 0)), some (43, true), 0, []⟩,
    ⟨some 49, .pick (.t 43) (.t 48) (.c (.bool false)), none, 0, []⟩,
    ⟨some 50, .mv (.t 49), none, 0, []⟩,
    ⟨some 51, .mv (.t 2), some (50, true), 0, []⟩,
    ⟨some 52, .iad none 5 (.t 51) (.c (.int .i64 1)), some (50, true), 0, []⟩,
    ⟨some 53, .fad 1 (.t 52), some (50, true), 0, []⟩,
    ⟨some 54, .load none (.t 53), some (50, true), 0, []⟩,
    ⟨some 55, .bin .eql .num (.t 54) (.c (.int .i64 1)), some (50, true), 0, []⟩,
    ⟨some 56, .pick (.t 50) (.t 55) (.c (.bool false)), none, 0, []⟩,
    ⟨some 57, .mv (.t 56), none, 0, []⟩,
    ⟨some 58, .mv (.t 2), some (57, true), 0, []⟩,
    ⟨some 59, .iad none 5 (.t 58) (.c (.int .i64 0)), some (57, true), 0, []⟩,
    ⟨some 60, .fad 2 (.t 59), some (57, true), 0, []⟩,
    ⟨some 61, .fad 1 (.t 60), some (57, true), 0, []⟩,
    ⟨some 62, .load none (.t 61), some (57, true), 0, []⟩,
    ⟨some 63, .bin .eql .num (.t 62) (.c (.int .i64 2)), some (57, true), 0, []⟩,
    ⟨some 64, .pick (.t 57) (.t 63) (.c (.bool false)), none, 0, []⟩,
    ⟨some 65, .mv (.t 64), none, 0, []⟩,
    ⟨some 66, .load (some 3) (.t 1), some (65, true), 0, []⟩,
    ⟨some 67, .load (some 3) (.t 4), some (65, true), 0, []⟩,
    ⟨some 68, .call (.f 84) [(.t 66), (.t 67)], some (65, true), 0, []⟩,
    ⟨some 69, .pick (.t 65) (.t 68) (.c (.bool false)), none, 0, []⟩,
    ⟨some 0, .mv (.t 69), none, 0, []⟩])
  (.ret)))))⟩

/-- A program that has them. -/
structure HasL10w (P : Prog) : Prop where
  h_burinlaw10_wakes : P 178 = some burinlaw10_wakes

end Go.Ab
