/- The texts of functions of the given program, for the abstract machine: written by wip/tools/gen.py out of Lean's print of the translation. Conditions: none; definitions alone. -/
import Derived.Test.YtfgecfbknpifjaaK1
set_option linter.all false
namespace Go.Ab
-- burinlaw2_wakes: 99, parameters ; loops 
-- burinlaw2_same: 101, parameters m b; loops 

/-- burin/burinlaw2.wakes -/
def burinlaw2_wakes : AFun := ⟨0, 49, true, [.t 0],
  .seq (.reg false [] [⟨some 0, .mv (.c (.bool false)), none, 0, []⟩])
  (.seq (.reg false [1, 2] [⟨some 4, .call (.f 42) [(.c (.int .i64 4)), (.c (.int .i64 1))], none, 0, []⟩,
    ⟨some 3, .mv (.t 4), none, 0, []⟩,
    ⟨some 5, .ext 0 (.t 3), none, 0, []⟩,
    ⟨some 6, .ext 1 (.t 3), none, 0, []⟩,
    ⟨some 1, .mv (.t 5), none, 0, []⟩,
    ⟨some 2, .mv (.t 6), none, 0, []⟩])
  (.seq (.seq (.reg false [1, 28] [⟨some 7, .mv (.t 2), none, 0, []⟩,
    ⟨some 8, .bin .neq .num (.t 7) (.c (.int .i64 0)), none, 0, []⟩,
    ⟨some 9, .mv (.t 8), none, 0, []⟩,
    ⟨some 10, .mv (.t 1), some (9, false), 0, []⟩,
    ⟨some 11, .bin .eql .ptr (.t 10) (.c (.ptr none)), some (9, false), 0, []⟩,
    ⟨some 12, .pick (.t 9) (.c (.bool true)) (.t 11), none, 0, []⟩,
    ⟨some 13, .mv (.t 12), none, 0, []⟩,
    ⟨some 14, .mv (.t 1), some (13, false), 0, []⟩,
    ⟨some 15, .call (.f 50) [(.t 14), (.c (.int .i64 0)), (.c (.int .i64 0)), (.c (.int .i64 1))], some (13, false), 0, []⟩,
    ⟨some 16, .bin .neq .num (.t 15) (.c (.int .i64 0)), some (13, false), 0, []⟩,
    ⟨some 17, .pick (.t 13) (.c (.bool true)) (.t 16), none, 0, []⟩,
    ⟨some 18, .mv (.t 17), none, 0, []⟩,
    ⟨some 19, .mv (.t 1), some (18, false), 0, []⟩,
    ⟨some 20, .call (.f 50) [(.t 19), (.c (.int .i64 1)), (.c (.int .i64 0)), (.c (.int .i64 1))], some (18, false), 0, []⟩,
    ⟨some 21, .bin .neq .num (.t 20) (.c (.int .i64 0)), some (18, false), 0, []⟩,
    ⟨some 22, .pick (.t 18) (.c (.bool true)) (.t 21), none, 0, []⟩,
    ⟨some 23, .mv (.t 22), none, 0, []⟩,
    ⟨some 24, .mv (.t 1), some (23, false), 0, []⟩,
    ⟨some 25, .mv (.t 1), some (23, false), 0, []⟩,
    ⟨some 26, .call (.f 64) [(.t 24), (.t 25), (.c (.int .i64 0)), (.c (.int .i64 0)), (.c (.int .i64 3)), (.c (.int .i64 1)), (.c (.int .i64 1)), (.c (.int .i64 0)), (.c (.int .i64 4))], some (23, false), 0, []⟩,
    ⟨some 27, .bin .neq .num (.t 26) (.c (.int .i64 0)), some (23, false), 0, []⟩,
    ⟨some 28, .pick (.t 23) (.c (.bool true)) (.t 27), none, 0, []⟩])
  (.cond (.t 28) (.seq (.reg false [0] [⟨some 0, .mv (.c (.bool false)), none, 0, []⟩])
  (.ret))
  (.skip)))
  (.seq (.reg false [0] [⟨some 29, .mv (.t 1), none, 0, []⟩,
    ⟨some 30, .call (.f 52) [(.t 29)], none, 0, []⟩,
    ⟨some 31, .bin .eql .num (.t 30) (.c (.int .i64 3)), none, 0, []⟩,
    ⟨some 32, .mv (.t 31), none, 0, []⟩,
    ⟨some 33, .mv (.t 1), some (32, true), 0, []⟩,
    ⟨some 34, .call (.f 48) [(.t 33), (.c (.int .i64 2)), (.c (.int .i64 0))], some (32, true), 0, []⟩,
    ⟨some 35, .bin .eql .num (.t 34) (.c (.int .i64 1)), some (32, true), 0, []⟩,
    ⟨some 36, .pick (.t 32) (.t 35) (.c (.bool false)), none, 0, []⟩,
    ⟨some 37, .mv (.t 36), none, 0, []⟩,
    ⟨some 38, .mv (.t 1), some (37, true), 0, []⟩,
    ⟨some 39, .call (.f 48) [(.t 38), (.c (.int .i64 3)), (.c (.int .i64 0))], some (37, true), 0, []⟩,
    ⟨some 40, .bin .eql .num (.t 39) (.c (.int .i64 0)), some (37, true), 0, []⟩,
    ⟨some 41, .pick (.t 37) (.t 40) (.c (.bool false)), none, 0, []⟩,
    ⟨some 42, .mv (.t 41), none, 0, []⟩,
    ⟨some 43, .mv (.t 1), some (42, true), 0, []⟩,
    ⟨some 44, .call (.f 45) [(.t 43)], some (42, true), 0, []⟩,
    ⟨some 45, .bslice 1 [.int .u64 0] 1 [(0, (.c (.int .u64 16140901064495857664)))], some (42, true), 0, []⟩,
    ⟨some 46, .build [.int .i64 0, .int .i64 0, .sl none 0 0 0] [(0, 1, (.c (.int .i64 4))), (1, 1, (.c (.int .i64 1))), (2, 1, (.t 45))], some (42, true), 0, []⟩,
    ⟨some 47, .call (.f 84) [(.t 44), (.t 46)], some (42, true), 0, []⟩,
    ⟨some 48, .pick (.t 42) (.t 47) (.c (.bool false)), none, 0, []⟩,
    ⟨some 0, .mv (.t 48), none, 0, []⟩])
  (.ret))))⟩

/-- burin/burinlaw2.same -/
def burinlaw2_same : AFun := ⟨2, 37, true, [.t 4],
  .seq (.reg false [0, 3] [⟨some 3, .box 3 (.t 1), none, 0, []⟩,
    ⟨some 4, .mv (.c (.bool false)), none, 0, []⟩])
  (.seq (.seq (.reg false [0, 3, 10] [⟨some 9, .mv (.t 0), none, 0, []⟩,
    ⟨some 10, .bin .eql .ptr (.t 9) (.c (.ptr none)), none, 0, []⟩])
  (.cond (.t 10) (.seq (.reg false [4] [⟨some 4, .mv (.c (.bool false)), none, 0, []⟩])
  (.ret))
  (.skip)))
  (.seq (.reg false [0, 3, 5] [⟨some 11, .mv (.t 0), none, 0, []⟩,
    ⟨some 12, .call (.f 45) [(.t 11)], none, 0, []⟩,
    ⟨some 5, .alloc [.int .i64 0, .int .i64 0, .sl none 0 0 0], none, 0, []⟩,
    ⟨none, .store 3 (.t 5) (.t 12), none, 0, []⟩])
  (.seq (.reg false [3, 5, 6, 7] [⟨some 14, .mv (.t 0), none, 0, []⟩,
    ⟨some 15, .call (.f 46) [(.t 14)], none, 0, []⟩,
    ⟨some 13, .mv (.t 15), none, 0, []⟩,
    ⟨some 16, .ext 0 (.t 13), none, 0, []⟩,
    ⟨some 17, .ext 1 (.t 13), none, 0, []⟩,
    ⟨some 6, .mv (.t 16), none, 0, []⟩,
    ⟨some 7, .mv (.t 17), none, 0, []⟩])
  (.seq (.reg false [5, 8] [⟨some 18, .load (some 3) (.t 5), none, 0, []⟩,
    ⟨some 19, .load (some 3) (.t 3), none, 0, []⟩,
    ⟨some 20, .call (.f 84) [(.t 18), (.t 19)], none, 0, []⟩,
    ⟨some 21, .mv (.t 20), none, 0, []⟩,
    ⟨some 22, .mv (.t 6), some (21, true), 0, []⟩,
    ⟨some 23, .fad 0 (.t 3), some (21, true), 0, []⟩,
    ⟨some 24, .load none (.t 23), some (21, true), 0, []⟩,
    ⟨some 25, .bin .eql .num (.t 22) (.t 24), some (21, true), 0, []⟩,
    ⟨some 26, .pick (.t 21) (.t 25) (.c (.bool false)), none, 0, []⟩,
    ⟨some 27, .mv (.t 26), none, 0, []⟩,
    ⟨some 28, .mv (.t 7), some (27, true), 0, []⟩,
    ⟨some 29, .fad 1 (.t 3), some (27, true), 0, []⟩,
    ⟨some 30, .load none (.t 29), some (27, true), 0, []⟩,
    ⟨some 31, .bin .eql .num (.t 28) (.t 30), some (27, true), 0, []⟩,
    ⟨some 32, .pick (.t 27) (.t 31) (.c (.bool false)), none, 0, []⟩,
    ⟨some 8, .mv (.t 32), none, 0, []⟩])
  (.seq (.reg false [8] [⟨some 33, .fad 2 (.t 5), none, 0, []⟩,
    ⟨some 34, .load none (.t 33), none, 0, []⟩,
    ⟨some 35, .call (.f 97) [(.t 34)], none, 0, []⟩])
  (.seq (.reg false [4] [⟨some 36, .mv (.t 8), none, 0, []⟩,
    ⟨some 4, .mv (.t 36), none, 0, []⟩])
  (.ret)))))))⟩

/-- A program that has them. -/
structure HasL2h (P : Prog) : Prop where
  h_burinlaw2_wakes : P 99 = some burinlaw2_wakes
  h_burinlaw2_same : P 101 = some burinlaw2_same

end Go.Ab
