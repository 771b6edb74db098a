/- The texts of functions of the given program, for the abstract machine: written by wip/tools/gen.py out of Lean's print of the translation. Conditions: none; definitions alone. -/
import Derived.Test.YtdkgdneiilnppaaAb
set_option linter.all false
namespace Go.Ab
-- burinlaw2_BitmapSelf: 106, parameters ?; loops 

/-- burin/burinlaw2.BitmapSelf -/
def burinlaw2_BitmapSelf : AFun := ⟨1, 113, true, [.t 2],
  .seq (.reg false [1] [⟨some 1, .box 14 (.t 0), none, 0, []⟩,
    ⟨some 2, .mv (.c (.bool false)), none, 0, []⟩])
  (.seq (.seq (.reg false [1, 20] [⟨some 10, .fad 0 (.t 1), none, 0, []⟩,
    ⟨some 11, .load (some 3) (.t 10), none, 0, []⟩,
    ⟨some 12, .call (.f 76) [(.t 11)], none, 0, []⟩,
    ⟨some 13, .un .not (.t 12), none, 0, []⟩,
    ⟨some 14, .mv (.t 13), none, 0, []⟩,
    ⟨some 15, .fad 0 (.t 1), some (14, false), 0, []⟩,
    ⟨some 16, .load (some 3) (.t 15), some (14, false), 0, []⟩,
    ⟨some 17, .bslice 3 [.int .i64 0, .int .i64 0, .sl none 0 0 0] 1 [(0, (.t 16))], some (14, false), 0, []⟩,
    ⟨some 18, .call (.f 98) [(.t 17), (.c (.int .i64 60000))], some (14, false), 0, []⟩,
    ⟨some 19, .un .not (.t 18), some (14, false), 0, []⟩,
    ⟨some 20, .pick (.t 14) (.c (.bool true)) (.t 19), none, 0, []⟩])
  (.cond (.t 20) (.seq (.reg false [2] [⟨some 21, .call (.f 99) [], none, 0, []⟩,
    ⟨some 2, .mv (.t 21), none, 0, []⟩])
  (.ret))
  (.skip)))
  (.seq (.reg false [1, 3, 4] [⟨some 23, .fad 0 (.t 1), none, 0, []⟩,
    ⟨some 24, .load (some 3) (.t 23), none, 0, []⟩,
    ⟨some 25, .call (.f 44) [(.t 24)], none, 0, []⟩,
    ⟨some 22, .mv (.t 25), none, 0, []⟩,
    ⟨some 26, .ext 0 (.t 22), none, 0, []⟩,
    ⟨some 27, .ext 1 (.t 22), none, 0, []⟩,
    ⟨some 3, .mv (.t 26), none, 0, []⟩,
    ⟨some 4, .mv (.t 27), none, 0, []⟩])
  (.seq (.reg false [1, 3, 4, 5, 6] [⟨some 29, .fad 0 (.t 1), none, 0, []⟩,
    ⟨some 30, .load (some 3) (.t 29), none, 0, []⟩,
    ⟨some 31, .call (.f 44) [(.t 30)], none, 0, []⟩,
    ⟨some 28, .mv (.t 31), none, 0, []⟩,
    ⟨some 32, .ext 0 (.t 28), none, 0, []⟩,
    ⟨some 33, .ext 1 (.t 28), none, 0, []⟩,
    ⟨some 5, .mv (.t 32), none, 0, []⟩,
    ⟨some 6, .mv (.t 33), none, 0, []⟩])
  (.seq (.reg false [1, 3, 4, 5, 6, 7, 8] [⟨some 35, .fad 0 (.t 1), none, 0, []⟩,
    ⟨some 36, .load (some 3) (.t 35), none, 0, []⟩,
    ⟨some 37, .call (.f 44) [(.t 36)], none, 0, []⟩,
    ⟨some 34, .mv (.t 37), none, 0, []⟩,
    ⟨some 38, .ext 0 (.t 34), none, 0, []⟩,
    ⟨some 39, .ext 1 (.t 34), none, 0, []⟩,
    ⟨some 7, .mv (.t 38), none, 0, []⟩,
    ⟨some 8, .mv (.t 39), none, 0, []⟩])
  (.seq (.seq (.reg false [1, 3, 5, 7, 61] [⟨some 40, .mv (.t 4), none, 0, []⟩,
    ⟨some 41, .bin .neq .num (.t 40) (.c (.int .i64 0)), none, 0, []⟩,
    ⟨some 42, .mv (.t 41), none, 0, []⟩,
    ⟨some 43, .mv (.t 6), some (42, false), 0, []⟩,
    ⟨some 44, .bin .neq .num (.t 43) (.c (.int .i64 0)), some (42, false), 0, []⟩,
    ⟨some 45, .pick (.t 42) (.c (.bool true)) (.t 44), none, 0, []⟩,
    ⟨some 46, .mv (.t 45), none, 0, []⟩,
    ⟨some 47, .mv (.t 8), some (46, false), 0, []⟩,
    ⟨some 48, .bin .neq .num (.t 47) (.c (.int .i64 0)), some (46, false), 0, []⟩,
    ⟨some 49, .pick (.t 46) (.c (.bool true)) (.t 48), none, 0, []⟩,
    ⟨some 50, .mv (.t 49), none, 0, []⟩,
    ⟨some 51, .mv (.t 3), some (50, false), 0, []⟩,
    ⟨some 52, .bin .eql .ptr (.t 51) (.c (.ptr none)), some (50, false), 0, []⟩,
    ⟨some 53, .pick (.t 50) (.c (.bool true)) (.t 52), none, 0, []⟩,
    ⟨some 54, .mv (.t 53), none, 0, []⟩,
    ⟨some 55, .mv (.t 5), some (54, false), 0, []⟩,
    ⟨some 56, .bin .eql .ptr (.t 55) (.c (.ptr none)), some (54, false), 0, []⟩,
    ⟨some 57, .pick (.t 54) (.c (.bool true)) (.t 56), none, 0, []⟩,
    ⟨some 58, .mv (.t 57), none, 0, []⟩,
    ⟨some 59, .mv (.t 7), some (58, false), 0, []⟩,
    ⟨some 60, .bin .eql .ptr (.t 59) (.c (.ptr none)), some (58, false), 0, []⟩,
    ⟨some 61, .pick (.t 58) (.c (.bool true)) (.t 60), none, 0, []⟩])
  (.cond (.t 61) (.seq (.reg false [2] [⟨some 2, .mv (.c (.bool false)), none, 0, []⟩])
  (.ret))
  (.skip)))
  (.seq (.reg false [1, 3, 5, 7, 9] [⟨some 62, .fad 6 (.t 1), none, 0, []⟩,
    ⟨some 63, .load (some 8) (.t 62), none, 0, []⟩,
    ⟨some 9, .alloc [.int .i64 0, .int .i64 0, .int .i64 0, .int .i64 0, .int .i64 0, .int .i64 0, .int .i64 0, .int .i64 0], none, 0, []⟩,
    ⟨none, .store 8 (.t 9) (.t 63), none, 0, []⟩])
  (.seq (.seq (.reg true [1, 3, 5, 7, 98] [⟨some 64, .mv (.t 3), none, 0, []⟩,
    ⟨some 65, .mv (.t 3), none, 1, []⟩,
    ⟨some 66, .iad (some 8) 1 (.t 9) (.c (.int .i64 0)), none, 2, []⟩,
    ⟨some 67, .load none (.t 66), none, 3, []⟩,
    ⟨some 68, .iad (some 8) 1 (.t 9) (.c (.int .i64 1)), none, 4, []⟩,
    ⟨some 69, .load none (.t 68), none, 5, []⟩,
    ⟨some 70, .iad (some 8) 1 (.t 9) (.c (.int .i64 2)), none, 6, []⟩,
    ⟨some 71, .load none (.t 70), none, 7, []⟩,
    ⟨some 72, .iad (some 8) 1 (.t 9) (.c (.int .i64 3)), none, 8, []⟩,
    ⟨some 73, .load none (.t 72), none, 9, []⟩,
    ⟨some 74, .iad (some 8) 1 (.t 9) (.c (.int .i64 4)), none, 10, []⟩,
    ⟨some 75, .load none (.t 74), none, 11, []⟩,
    ⟨some 76, .iad (some 8) 1 (.t 9) (.c (.int .i64 5)), none, 12, []⟩,
    ⟨some 77, .load none (.t 76), none, 13, []⟩,
    ⟨some 78, .iad (some 8) 1 (.t 9) (.c (.int .i64 6)), none, 14, []⟩,
    ⟨some 79, .load none (.t 78), none, 15, []⟩,
    ⟨some 81, .mv (.t 5), none, 17, []⟩,
    ⟨some 82, .mv (.t 7), none, 18, []⟩,
    ⟨some 83, .iad (some 8) 1 (.t 9) (.c (.int .i64 0)), none, 19, []⟩,
    ⟨some 84, .load none (.t 83), none, 20, []⟩,
    ⟨some 85, .iad (some 8) 1 (.t 9) (.c (.int .i64 1)), none, 21, []⟩,
    ⟨some 86, .load none (.t 85), none, 22, []⟩,
    ⟨some 87, .iad (some 8) 1 (.t 9) (.c (.int .i64 2)), none, 23, []⟩,
    ⟨some 88, .load none (.t 87), none, 24, []⟩,
    ⟨some 89, .iad (some 8) 1 (.t 9) (.c (.int .i64 3)), none, 25, []⟩,
    ⟨some 90, .load none (.t 89), none, 26, []⟩,
    ⟨some 91, .iad (some 8) 1 (.t 9) (.c (.int .i64 4)), none, 27, []⟩,
    ⟨some 92, .load none (.t 91), none, 28, []⟩,
    ⟨some 93, .iad (some 8) 1 (.t 9) (.c (.int .i64 5)), none, 29, []⟩,
    ⟨some 94, .load none (.t 93), none, 30, []⟩,
    ⟨some 95, .iad (some 8) 1 (.t 9) (.c (.int .i64 6)), none, 31, []⟩,
    ⟨some 96, .load none (.t 95), none, 32, []⟩,
    ⟨some 80, .call (.f 64) [(.t 64), (.t 65), (.t 67), (.t 69), (.t 71), (.t 73), (.t 75), (.t 77), (.t 79)], none, 16, [20, 22, 24, 26, 28, 30, 32]⟩,
    ⟨some 97, .call (.f 64) [(.t 81), (.t 82), (.t 84), (.t 86), (.t 88), (.t 90), (.t 92), (.t 94), (.t 96)], none, 33, []⟩,
    ⟨some 98, .bin .neq .num (.t 80) (.t 97), none, 34, []⟩])
  (.cond (.t 98) (.seq (.reg false [2] [⟨some 2, .mv (.c (.bool false)), none, 0, []⟩])
  (.ret))
  (.skip)))
  (.seq (.reg false [2] [⟨some 99, .mv (.t 3), none, 0, []⟩,
    ⟨some 100, .call (.f 45) [(.t 99)], none, 0, []⟩,
    ⟨some 101, .mv (.t 5), none, 0, []⟩,
    ⟨some 102, .call (.f 45) [(.t 101)], none, 0, []⟩,
    ⟨some 103, .call (.f 84) [(.t 100), (.t 102)], none, 0, []⟩,
    ⟨some 104, .mv (.t 103), none, 0, []⟩,
    ⟨some 105, .mv (.t 7), some (104, true), 0, []⟩,
    ⟨some 106, .fad 0 (.t 1), some (104, true), 0, []⟩,
    ⟨some 107, .load (some 3) (.t 106), some (104, true), 0, []⟩,
    ⟨some 108, .call (.f 101) [(.t 105), (.t 107)], some (104, true), 0, []⟩,
    ⟨some 109, .pick (.t 104) (.t 108) (.c (.bool false)), none, 0, []⟩,
    ⟨some 110, .mv (.t 109), none, 0, []⟩,
    ⟨some 111, .call (.f 99) [], some (110, true), 0, []⟩,
    ⟨some 112, .pick (.t 110) (.t 111) (.c (.bool false)), none, 0, []⟩,
    ⟨some 2, .mv (.t 112), none, 0, []⟩])
  (.ret)))))))))⟩

/-- A program that has them. -/
structure HasL2Self (P : Prog) : Prop where
  h_burinlaw2_BitmapSelf : P 106 = some burinlaw2_BitmapSelf

end Go.Ab
