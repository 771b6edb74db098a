/- The texts of functions of the given program, for the abstract machine: written by wip/tools/gen.py out of Lean's print of the translation. Conditions: none; definitions alone. -/
import Derived.Test.YtfgecfbknpifjaaK1
set_option linter.all false
namespace Go.Ab
-- burinlaw10_CompsRound: 194, parameters ?; loops burinlaw10_CompsRound_l0 [1 ?, 3 ?, 7 ?, 12 ?]; burinlaw10_CompsRound_l1 [1 ?, 3 ?, 7 ?, 8 ?]

def burinlaw10_CompsRound_l1 : Cd := .seq (.seq (.reg false [1, 3, 7, 8, 56] [⟨some 49, .mv (.t 8), none, 0, []⟩,
    ⟨some 50, .mv (.t 3), none, 0, []⟩,
    ⟨some 51, .len none (.t 50), none, 0, []⟩,
    ⟨some 52, .bin .lss .num (.t 49) (.t 51), none, 0, []⟩,
    ⟨some 53, .mv (.t 52), none, 0, []⟩,
    ⟨some 54, .mv (.t 8), some (53, true), 0, []⟩,
    ⟨some 55, .bin .lss .num (.t 54) (.c (.int .i64 200)), some (53, true), 0, []⟩,
    ⟨some 56, .pick (.t 53) (.t 55) (.c (.bool false)), none, 0, []⟩])
  (.cond (.t 56) (.skip)
  (.exit 0)))
  (.seq (.block 1 (.seq (.reg false [1, 3, 7, 8, 9] [⟨some 59, .mv (.t 3), none, 0, []⟩,
    ⟨some 60, .mv (.t 8), none, 0, []⟩,
    ⟨some 61, .iad none 5 (.t 59) (.t 60), none, 0, []⟩,
    ⟨some 62, .load (some 5) (.t 61), none, 0, []⟩,
    ⟨some 9, .alloc [.int .i64 0, .int .i64 0, .int .i64 0, .int .i64 0, .sl none 0 0 0], none, 0, []⟩,
    ⟨none, .store 5 (.t 9) (.t 62), none, 0, []⟩])
  (.seq (.seq (.reg false [1, 3, 7, 8, 9, 98] [⟨some 63, .fad 2 (.t 9), none, 0, []⟩,
    ⟨some 64, .load (some 3) (.t 63), none, 0, []⟩,
    ⟨some 65, .call (.f 76) [(.t 64)], none, 0, []⟩,
    ⟨some 66, .un .not (.t 65), none, 0, []⟩,
    ⟨some 67, .mv (.t 66), none, 0, []⟩,
    ⟨some 68, .fad 0 (.t 9), some (67, false), 0, []⟩,
    ⟨some 69, .load none (.t 68), some (67, false), 0, []⟩,
    ⟨some 70, .bin .lss .num (.t 69) (.c (.int .i64 0)), some (67, false), 0, []⟩,
    ⟨some 71, .pick (.t 67) (.c (.bool true)) (.t 70), none, 0, []⟩,
    ⟨some 72, .mv (.t 71), none, 0, []⟩,
    ⟨some 73, .fad 1 (.t 9), some (72, false), 0, []⟩,
    ⟨some 74, .load none (.t 73), some (72, false), 0, []⟩,
    ⟨some 75, .bin .lss .num (.t 74) (.c (.int .i64 0)), some (72, false), 0, []⟩,
    ⟨some 76, .pick (.t 72) (.c (.bool true)) (.t 75), none, 0, []⟩,
    ⟨some 77, .mv (.t 76), none, 0, []⟩,
    ⟨some 78, .fad 0 (.t 9), some (77, false), 0, []⟩,
    ⟨some 79, .load none (.t 78), some (77, false), 0, []⟩,
    ⟨some 80, .fad 2 (.t 9), some (77, false), 0, []⟩,
    ⟨some 81, .fad 0 (.t 80), some (77, false), 0, []⟩,
    ⟨some 82, .load none (.t 81), some (77, false), 0, []⟩,
    ⟨some 83, .bin .add .num (.t 79) (.t 82), some (77, false), 0, []⟩,
    ⟨some 84, .fad 0 (.t 1), some (77, false), 0, []⟩,
    ⟨some 85, .load none (.t 84), some (77, false), 0, []⟩,
    ⟨some 86, .bin .gtr .num (.t 83) (.t 85), some (77, false), 0, []⟩,
    ⟨some 87, .pick (.t 77) (.c (.bool true)) (.t 86), none, 0, []⟩,
    ⟨some 88, .mv (.t 87), none, 0, []⟩,
    ⟨some 89, .fad 1 (.t 9), some (88, false), 0, []⟩,
    ⟨some 90, .load none (.t 89), some (88, false), 0, []⟩,
    ⟨some 91, .fad 2 (.t 9), some (88, false), 0, []⟩,
    ⟨some 92, .fad 1 (.t 91), some (88, false), 0, []⟩,
    ⟨some 93, .load none (.t 92), some (88, false), 0, []⟩,
    ⟨some 94, .bin .add .num (.t 90) (.t 93), some (88, false), 0, []⟩,
    ⟨some 95, .fad 1 (.t 1), some (88, false), 0, []⟩,
    ⟨some 96, .load none (.t 95), some (88, false), 0, []⟩,
    ⟨some 97, .bin .gtr .num (.t 94) (.t 96), some (88, false), 0, []⟩,
    ⟨some 98, .pick (.t 88) (.c (.bool true)) (.t 97), none, 0, []⟩])
  (.cond (.t 98) (.seq (.reg false [2] [⟨some 2, .mv (.c (.bool false)), none, 0, []⟩])
  (.ret))
  (.skip)))
  (.seq (.reg false [1, 3, 7, 8, 9, 10, 11] [⟨some 100, .fad 2 (.t 9), none, 0, []⟩,
    ⟨some 101, .load (some 3) (.t 100), none, 0, []⟩,
    ⟨some 102, .call (.f 181) [(.t 101)], none, 0, []⟩,
    ⟨some 99, .mv (.t 102), none, 0, []⟩,
    ⟨some 103, .ext 0 (.t 99), none, 0, []⟩,
    ⟨some 104, .ext 1 (.t 99), none, 0, []⟩,
    ⟨some 10, .mv (.t 103), none, 0, []⟩,
    ⟨some 11, .mv (.t 104), none, 0, []⟩])
  (.seq (.reg true [1, 3, 7, 8, 135] [⟨some 105, .mv (.t 11), none, 0, []⟩,
    ⟨some 106, .bin .neq .num (.t 105) (.c (.int .i64 0)), none, 1, []⟩,
    ⟨some 107, .mv (.t 106), none, 2, []⟩,
    ⟨some 108, .mv (.t 10), some (107, false), 3, []⟩,
    ⟨some 109, .len none (.t 108), some (107, false), 4, []⟩,
    ⟨some 110, .bin .neq .num (.t 109) (.c (.int .i64 1)), some (107, false), 5, []⟩,
    ⟨some 111, .pick (.t 107) (.c (.bool true)) (.t 110), none, 6, []⟩,
    ⟨some 112, .mv (.t 111), none, 7, []⟩,
    ⟨some 113, .mv (.t 10), some (112, false), 8, []⟩,
    ⟨some 114, .iad none 5 (.t 113) (.c (.int .i64 0)), some (112, false), 9, []⟩,
    ⟨some 115, .fad 0 (.t 114), some (112, false), 10, []⟩,
    ⟨some 116, .load none (.t 115), some (112, false), 11, []⟩,
    ⟨some 117, .bin .neq .num (.t 116) (.c (.int .i64 0)), some (112, false), 12, []⟩,
    ⟨some 118, .pick (.t 112) (.c (.bool true)) (.t 117), none, 13, []⟩,
    ⟨some 119, .mv (.t 118), none, 14, []⟩,
    ⟨some 120, .mv (.t 10), some (119, false), 15, []⟩,
    ⟨some 121, .iad none 5 (.t 120) (.c (.int .i64 0)), some (119, false), 16, []⟩,
    ⟨some 122, .fad 1 (.t 121), some (119, false), 17, []⟩,
    ⟨some 123, .load none (.t 122), some (119, false), 18, []⟩,
    ⟨some 124, .bin .neq .num (.t 123) (.c (.int .i64 0)), some (119, false), 19, []⟩,
    ⟨some 125, .pick (.t 119) (.c (.bool true)) (.t 124), none, 20, []⟩,
    ⟨some 126, .mv (.t 125), none, 21, []⟩,
    ⟨some 127, .mv (.t 10), some (126, false), 22, []⟩,
    ⟨some 128, .iad none 5 (.t 127) (.c (.int .i64 0)), some (126, false), 23, []⟩,
    ⟨some 129, .fad 2 (.t 128), some (126, false), 24, []⟩,
    ⟨some 130, .load (some 3) (.t 129), some (126, false), 25, []⟩,
    ⟨some 131, .fad 2 (.t 9), some (126, false), 26, []⟩,
    ⟨some 132, .load (some 3) (.t 131), some (126, false), 27, []⟩,
    ⟨some 133, .call (.f 84) [(.t 130), (.t 132)], some (126, false), 28, []⟩,
    ⟨some 134, .un .not (.t 133), some (126, false), 29, []⟩,
    ⟨some 135, .pick (.t 126) (.c (.bool true)) (.t 134), none, 30, []⟩])
  (.cond (.t 135) (.seq (.reg false [2] [⟨some 2, .mv (.c (.bool false)), none, 0, []⟩])
  (.ret))
  (.skip)))))))
  (.reg false [1, 3, 7, 8] [⟨some 57, .mv (.t 8), none, 0, []⟩,
    ⟨some 58, .bin .add .num (.t 57) (.c (.int .i64 1)), none, 0, []⟩,
    ⟨some 8, .mv (.t 58), none, 0, []⟩]))
def burinlaw10_CompsRound_l0 : Cd := .seq (.seq (.reg false [1, 3, 7, 12, 139] [⟨some 136, .mv (.t 12), none, 0, []⟩,
    ⟨some 137, .mv (.t 3), none, 0, []⟩,
    ⟨some 138, .len none (.t 137), none, 0, []⟩,
    ⟨some 139, .bin .lss .num (.t 136) (.t 138), none, 0, []⟩])
  (.cond (.t 139) (.skip)
  (.exit 2)))
  (.seq (.block 3 (.reg false [1, 3, 7, 12] [⟨some 142, .mv (.t 7), none, 0, []⟩,
    ⟨some 143, .mv (.t 3), none, 0, []⟩,
    ⟨some 144, .mv (.t 12), none, 0, []⟩,
    ⟨some 145, .iad none 5 (.t 143) (.t 144), none, 0, []⟩,
    ⟨some 146, .fad 2 (.t 145), none, 0, []⟩,
    ⟨some 147, .load (some 3) (.t 146), none, 0, []⟩,
    ⟨some 148, .call (.f 81) [(.t 147)], none, 0, []⟩,
    ⟨some 149, .bin .add .num (.t 142) (.t 148), none, 0, []⟩,
    ⟨some 7, .mv (.t 149), none, 0, []⟩]))
  (.reg false [1, 3, 7, 12] [⟨some 140, .mv (.t 12), none, 0, []⟩,
    ⟨some 141, .bin .add .num (.t 140) (.c (.int .i64 1)), none, 0, []⟩,
    ⟨some 12, .mv (.t 141), none, 0, []⟩]))
/-- burin/burinlaw10.CompsRound -/
def burinlaw10_CompsRound : AFun := ⟨1, 157, true, [.t 2],
  .seq (.reg false [1] [⟨some 1, .box 3 (.t 0), none, 0, []⟩,
    ⟨some 2, .mv (.c (.bool false)), none, 0, []⟩])
  (.seq (.seq (.reg false [1, 21] [⟨some 13, .load (some 3) (.t 1), none, 0, []⟩,
    ⟨some 14, .call (.f 76) [(.t 13)], none, 0, []⟩,
    ⟨some 15, .un .not (.t 14), none, 0, []⟩,
    ⟨some 16, .mv (.t 15), none, 0, []⟩,
    ⟨some 17, .load (some 3) (.t 1), some (16, false), 0, []⟩,
    ⟨some 18, .bslice 3 [.int .i64 0, .int .i64 0, .sl none 0 0 0] 1 [(0, (.t 17))], some (16, false), 0, []⟩,
    ⟨some 19, .call (.f 98) [(.t 18), (.c (.int .i64 20000))], some (16, false), 0, []⟩,
    ⟨some 20, .un .not (.t 19), some (16, false), 0, []⟩,
    ⟨some 21, .pick (.t 16) (.c (.bool true)) (.t 20), none, 0, []⟩])
  (.cond (.t 21) (.seq (.reg false [2] [⟨some 22, .call (.f 178) [], none, 0, []⟩,
    ⟨some 2, .mv (.t 22), none, 0, []⟩])
  (.ret))
  (.skip)))
  (.seq (.reg false [1, 3, 4] [⟨some 24, .load (some 3) (.t 1), none, 0, []⟩,
    ⟨some 25, .call (.f 181) [(.t 24)], none, 0, []⟩,
    ⟨some 23, .mv (.t 25), none, 0, []⟩,
    ⟨some 26, .ext 0 (.t 23), none, 0, []⟩,
    ⟨some 27, .ext 1 (.t 23), none, 0, []⟩,
    ⟨some 3, .mv (.t 26), none, 0, []⟩,
    ⟨some 4, .mv (.t 27), none, 0, []⟩])
  (.seq (.reg false [1, 3, 4, 5, 6] [⟨some 29, .mv (.t 3), none, 0, []⟩,
    ⟨some 30, .fad 0 (.t 1), none, 0, []⟩,
    ⟨some 31, .load none (.t 30), none, 0, []⟩,
    ⟨some 32, .fad 1 (.t 1), none, 0, []⟩,
    ⟨some 33, .load none (.t 32), none, 0, []⟩,
    ⟨some 34, .call (.f 184) [(.t 29), (.t 31), (.t 33)], none, 0, []⟩,
    ⟨some 28, .mv (.t 34), none, 0, []⟩,
    ⟨some 35, .ext 0 (.t 28), none, 0, []⟩,
    ⟨some 36, .ext 1 (.t 28), none, 0, []⟩,
    ⟨some 5, .alloc [.int .i64 0, .int .i64 0, .sl none 0 0 0], none, 0, []⟩,
    ⟨none, .store 3 (.t 5) (.t 35), none, 0, []⟩,
    ⟨some 6, .mv (.t 36), none, 0, []⟩])
  (.seq (.seq (.reg false [1, 3, 48] [⟨some 37, .mv (.t 4), none, 0, []⟩,
    ⟨some 38, .bin .neq .num (.t 37) (.c (.int .i64 0)), none, 0, []⟩,
    ⟨some 39, .mv (.t 38), none, 0, []⟩,
    ⟨some 40, .mv (.t 6), some (39, false), 0, []⟩,
    ⟨some 41, .bin .neq .num (.t 40) (.c (.int .i64 0)), some (39, false), 0, []⟩,
    ⟨some 42, .pick (.t 39) (.c (.bool true)) (.t 41), none, 0, []⟩,
    ⟨some 43, .mv (.t 42), none, 0, []⟩,
    ⟨some 44, .load (some 3) (.t 1), some (43, false), 0, []⟩,
    ⟨some 45, .load (some 3) (.t 5), some (43, false), 0, []⟩,
    ⟨some 46, .call (.f 84) [(.t 44), (.t 45)], some (43, false), 0, []⟩,
    ⟨some 47, .un .not (.t 46), some (43, false), 0, []⟩,
    ⟨some 48, .pick (.t 43) (.c (.bool true)) (.t 47), none, 0, []⟩])
  (.cond (.t 48) (.seq (.reg false [2] [⟨some 2, .mv (.c (.bool false)), none, 0, []⟩])
  (.ret))
  (.skip)))
  (.seq (.reg false [1, 3, 7] [⟨some 7, .mv (.c (.int .i64 0)), none, 0, []⟩])
  (.seq (.seq (.reg false [1, 3, 7, 8] [⟨some 8, .mv (.c (.int .i64 0)), none, 0, []⟩])
  (.block 0 (.loop [1, 3, 7, 8] burinlaw10_CompsRound_l1)))
  (.seq (.seq (.reg false [1, 3, 7, 12] [⟨some 12, .mv (.c (.int .i64 0)), none, 0, []⟩])
  (.block 2 (.loop [1, 3, 7, 12] burinlaw10_CompsRound_l0)))
  (.seq (.reg false [2] [⟨some 150, .mv (.t 7), none, 0, []⟩,
    ⟨some 151, .load (some 3) (.t 1), none, 0, []⟩,
    ⟨some 152, .call (.f 81) [(.t 151)], none, 0, []⟩,
    ⟨some 153, .bin .eql .num (.t 150) (.t 152), none, 0, []⟩,
    ⟨some 154, .mv (.t 153), none, 0, []⟩,
    ⟨some 155, .call (.f 178) [], some (154, true), 0, []⟩,
    ⟨some 156, .pick (.t 154) (.t 155) (.c (.bool false)), none, 0, []⟩,
    ⟨some 2, .mv (.t 156), none, 0, []⟩])
  (.ret)))))))))⟩

/-- A program that has them. -/
structure HasL10Round (P : Prog) : Prop where
  h_burinlaw10_CompsRound : P 194 = some burinlaw10_CompsRound

end Go.Ab
