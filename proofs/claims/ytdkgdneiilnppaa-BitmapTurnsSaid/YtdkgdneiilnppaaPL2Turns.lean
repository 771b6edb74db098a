/- The texts of functions of the given program, for the abstract machine: written by wip/tools/gen.py out of Lean's print of the translation. Conditions: none; definitions alone. -/
import Derived.Test.YtdkgdneiilnppaaAb
set_option linter.all false
namespace Go.Ab
-- burinlaw2_BitmapTurns: 107, parameters ?; loops burinlaw2_BitmapTurns_l0 [1 ?, 3 ?, 5 ?, 8 ?, 9 ?]; burinlaw2_BitmapTurns_l1 [1 ?, 3 ?, 5 ?, 8 ?, 9 ?, 10 ?]

def burinlaw2_BitmapTurns_l1 : Cd := .seq (.seq (.reg false [1, 3, 5, 8, 9, 10, 128] [⟨some 125, .mv (.t 10), none, 0, []⟩,
    ⟨some 126, .fad 0 (.t 1), none, 0, []⟩,
    ⟨some 127, .load none (.t 126), none, 0, []⟩,
    ⟨some 128, .bin .lss .num (.t 125) (.t 127), none, 0, []⟩])
  (.cond (.t 128) (.skip)
  (.exit 2)))
  (.seq (.block 3 (.seq (.reg true [1, 3, 5, 8, 9, 10, 143] [⟨some 131, .mv (.t 5), none, 0, []⟩,
    ⟨some 132, .fad 1 (.t 1), none, 1, []⟩,
    ⟨some 133, .load none (.t 132), none, 2, []⟩,
    ⟨some 134, .bin .sub .num (.t 133) (.c (.int .i64 1)), none, 3, []⟩,
    ⟨some 135, .mv (.t 9), none, 4, []⟩,
    ⟨some 136, .bin .sub .num (.t 134) (.t 135), none, 5, []⟩,
    ⟨some 137, .mv (.t 10), none, 6, []⟩,
    ⟨some 139, .load (some 3) (.t 1), none, 8, []⟩,
    ⟨some 140, .mv (.t 10), none, 9, []⟩,
    ⟨some 141, .mv (.t 9), none, 10, []⟩,
    ⟨some 138, .call (.f 48) [(.t 131), (.t 136), (.t 137)], none, 7, [8]⟩,
    ⟨some 142, .call (.f 78) [(.t 139), (.t 140), (.t 141)], none, 11, []⟩,
    ⟨some 143, .bin .neq .num (.t 138) (.t 142), none, 12, []⟩])
  (.cond (.t 143) (.seq (.reg false [2] [⟨some 2, .mv (.c (.bool false)), none, 0, []⟩])
  (.ret))
  (.skip))))
  (.reg false [1, 3, 5, 8, 9, 10] [⟨some 129, .mv (.t 10), none, 0, []⟩,
    ⟨some 130, .bin .add .num (.t 129) (.c (.int .i64 1)), none, 0, []⟩,
    ⟨some 10, .mv (.t 130), none, 0, []⟩]))
def burinlaw2_BitmapTurns_l0 : Cd := .seq (.seq (.reg false [1, 3, 5, 8, 9, 122] [⟨some 119, .mv (.t 9), none, 0, []⟩,
    ⟨some 120, .fad 1 (.t 1), none, 0, []⟩,
    ⟨some 121, .load none (.t 120), none, 0, []⟩,
    ⟨some 122, .bin .lss .num (.t 119) (.t 121), none, 0, []⟩])
  (.cond (.t 122) (.skip)
  (.exit 0)))
  (.seq (.block 1 (.seq (.reg false [1, 3, 5, 8, 9, 10] [⟨some 10, .mv (.c (.int .i64 0)), none, 0, []⟩])
  (.block 2 (.loop [1, 3, 5, 8, 9, 10] burinlaw2_BitmapTurns_l1))))
  (.reg false [1, 3, 5, 8, 9] [⟨some 123, .mv (.t 9), none, 0, []⟩,
    ⟨some 124, .bin .add .num (.t 123) (.c (.int .i64 1)), none, 0, []⟩,
    ⟨some 9, .mv (.t 124), none, 0, []⟩]))
/-- burin/burinlaw2.BitmapTurns -/
def burinlaw2_BitmapTurns : AFun := ⟨1, 170, true, [.t 2],
  .seq (.reg false [1] [⟨some 1, .box 3 (.t 0), none, 0, []⟩,
    ⟨some 2, .mv (.c (.bool false)), none, 0, []⟩])
  (.seq (.seq (.reg false [1, 19] [⟨some 11, .load (some 3) (.t 1), none, 0, []⟩,
    ⟨some 12, .call (.f 76) [(.t 11)], none, 0, []⟩,
    ⟨some 13, .un .not (.t 12), none, 0, []⟩,
    ⟨some 14, .mv (.t 13), none, 0, []⟩,
    ⟨some 15, .load (some 3) (.t 1), some (14, false), 0, []⟩,
    ⟨some 16, .bslice 3 [.int .i64 0, .int .i64 0, .sl none 0 0 0] 1 [(0, (.t 15))], some (14, false), 0, []⟩,
    ⟨some 17, .call (.f 98) [(.t 16), (.c (.int .i64 60000))], some (14, false), 0, []⟩,
    ⟨some 18, .un .not (.t 17), some (14, false), 0, []⟩,
    ⟨some 19, .pick (.t 14) (.c (.bool true)) (.t 18), none, 0, []⟩])
  (.cond (.t 19) (.seq (.reg false [2] [⟨some 20, .call (.f 99) [], none, 0, []⟩,
    ⟨some 2, .mv (.t 20), none, 0, []⟩])
  (.ret))
  (.skip)))
  (.seq (.reg false [1, 3, 4] [⟨some 22, .load (some 3) (.t 1), none, 0, []⟩,
    ⟨some 23, .call (.f 44) [(.t 22)], none, 0, []⟩,
    ⟨some 21, .mv (.t 23), none, 0, []⟩,
    ⟨some 24, .ext 0 (.t 21), none, 0, []⟩,
    ⟨some 25, .ext 1 (.t 21), none, 0, []⟩,
    ⟨some 3, .mv (.t 24), none, 0, []⟩,
    ⟨some 4, .mv (.t 25), none, 0, []⟩])
  (.seq (.seq (.reg false [1, 3, 41] [⟨some 26, .mv (.t 4), none, 0, []⟩,
    ⟨some 27, .bin .neq .num (.t 26) (.c (.int .i64 0)), none, 0, []⟩,
    ⟨some 28, .mv (.t 27), none, 0, []⟩,
    ⟨some 29, .mv (.t 3), some (28, false), 0, []⟩,
    ⟨some 30, .bin .eql .ptr (.t 29) (.c (.ptr none)), some (28, false), 0, []⟩,
    ⟨some 31, .pick (.t 28) (.c (.bool true)) (.t 30), none, 0, []⟩,
    ⟨some 32, .mv (.t 31), none, 0, []⟩,
    ⟨some 33, .mv (.t 3), some (32, false), 0, []⟩,
    ⟨some 34, .call (.f 69) [(.t 33)], some (32, false), 0, []⟩,
    ⟨some 35, .bin .eql .ptr (.t 34) (.c (.ptr none)), some (32, false), 0, []⟩,
    ⟨some 36, .pick (.t 32) (.c (.bool true)) (.t 35), none, 0, []⟩,
    ⟨some 37, .mv (.t 36), none, 0, []⟩,
    ⟨some 38, .mv (.t 3), some (37, false), 0, []⟩,
    ⟨some 39, .call (.f 71) [(.t 38)], some (37, false), 0, []⟩,
    ⟨some 40, .bin .eql .ptr (.t 39) (.c (.ptr none)), some (37, false), 0, []⟩,
    ⟨some 41, .pick (.t 37) (.c (.bool true)) (.t 40), none, 0, []⟩])
  (.cond (.t 41) (.seq (.reg false [2] [⟨some 2, .mv (.c (.bool false)), none, 0, []⟩])
  (.ret))
  (.skip)))
  (.seq (.reg false [1, 3, 5] [⟨some 42, .mv (.t 3), none, 0, []⟩,
    ⟨some 43, .call (.f 71) [(.t 42)], none, 0, []⟩,
    ⟨some 5, .mv (.t 43), none, 0, []⟩])
  (.seq (.reg false [1, 3, 5, 6] [⟨some 44, .mv (.t 5), none, 0, []⟩,
    ⟨some 45, .call (.f 71) [(.t 44)], none, 0, []⟩,
    ⟨some 6, .mv (.t 45), none, 0, []⟩])
  (.seq (.seq (.reg false [1, 3, 5, 6, 69] [⟨some 46, .mv (.t 6), none, 0, []⟩,
    ⟨some 47, .bin .eql .ptr (.t 46) (.c (.ptr none)), none, 0, []⟩,
    ⟨some 48, .mv (.t 47), none, 0, []⟩,
    ⟨some 49, .mv (.t 6), some (48, false), 0, []⟩,
    ⟨some 50, .call (.f 71) [(.t 49)], some (48, false), 0, []⟩,
    ⟨some 51, .bin .eql .ptr (.t 50) (.c (.ptr none)), some (48, false), 0, []⟩,
    ⟨some 52, .pick (.t 48) (.c (.bool true)) (.t 51), none, 0, []⟩,
    ⟨some 53, .mv (.t 52), none, 0, []⟩,
    ⟨some 54, .mv (.t 6), some (53, false), 0, []⟩,
    ⟨some 55, .call (.f 71) [(.t 54)], some (53, false), 0, []⟩,
    ⟨some 56, .call (.f 71) [(.t 55)], some (53, false), 0, []⟩,
    ⟨some 57, .bin .eql .ptr (.t 56) (.c (.ptr none)), some (53, false), 0, []⟩,
    ⟨some 58, .pick (.t 53) (.c (.bool true)) (.t 57), none, 0, []⟩,
    ⟨some 59, .mv (.t 58), none, 0, []⟩,
    ⟨some 60, .mv (.t 3), some (59, false), 0, []⟩,
    ⟨some 61, .call (.f 69) [(.t 60)], some (59, false), 0, []⟩,
    ⟨some 62, .call (.f 69) [(.t 61)], some (59, false), 0, []⟩,
    ⟨some 63, .bin .eql .ptr (.t 62) (.c (.ptr none)), some (59, false), 0, []⟩,
    ⟨some 64, .pick (.t 59) (.c (.bool true)) (.t 63), none, 0, []⟩,
    ⟨some 65, .mv (.t 64), none, 0, []⟩,
    ⟨some 66, .mv (.t 5), some (65, false), 0, []⟩,
    ⟨some 67, .call (.f 69) [(.t 66)], some (65, false), 0, []⟩,
    ⟨some 68, .bin .eql .ptr (.t 67) (.c (.ptr none)), some (65, false), 0, []⟩,
    ⟨some 69, .pick (.t 65) (.c (.bool true)) (.t 68), none, 0, []⟩])
  (.cond (.t 69) (.seq (.reg false [2] [⟨some 2, .mv (.c (.bool false)), none, 0, []⟩])
  (.ret))
  (.skip)))
  (.seq (.reg false [1, 3, 5, 6, 7] [⟨some 70, .mv (.t 3), none, 0, []⟩,
    ⟨some 71, .call (.f 69) [(.t 70)], none, 0, []⟩,
    ⟨some 72, .call (.f 71) [(.t 71)], none, 0, []⟩,
    ⟨some 7, .mv (.t 72), none, 0, []⟩])
  (.seq (.seq (.reg false [1, 3, 5, 6, 7, 85] [⟨some 73, .mv (.t 7), none, 0, []⟩,
    ⟨some 74, .bin .eql .ptr (.t 73) (.c (.ptr none)), none, 0, []⟩,
    ⟨some 75, .mv (.t 74), none, 0, []⟩,
    ⟨some 76, .mv (.t 7), some (75, false), 0, []⟩,
    ⟨some 77, .call (.f 71) [(.t 76)], some (75, false), 0, []⟩,
    ⟨some 78, .bin .eql .ptr (.t 77) (.c (.ptr none)), some (75, false), 0, []⟩,
    ⟨some 79, .pick (.t 75) (.c (.bool true)) (.t 78), none, 0, []⟩,
    ⟨some 80, .mv (.t 79), none, 0, []⟩,
    ⟨some 81, .mv (.t 7), some (80, false), 0, []⟩,
    ⟨some 82, .call (.f 71) [(.t 81)], some (80, false), 0, []⟩,
    ⟨some 83, .call (.f 71) [(.t 82)], some (80, false), 0, []⟩,
    ⟨some 84, .bin .eql .ptr (.t 83) (.c (.ptr none)), some (80, false), 0, []⟩,
    ⟨some 85, .pick (.t 80) (.c (.bool true)) (.t 84), none, 0, []⟩])
  (.cond (.t 85) (.seq (.reg false [2] [⟨some 2, .mv (.c (.bool false)), none, 0, []⟩])
  (.ret))
  (.skip)))
  (.seq (.reg false [1, 3, 5, 6, 7, 8] [⟨some 86, .mv (.t 3), none, 0, []⟩,
    ⟨some 87, .call (.f 52) [(.t 86)], none, 0, []⟩,
    ⟨some 8, .mv (.t 87), none, 0, []⟩])
  (.seq (.seq (.reg true [1, 3, 5, 8, 118] [⟨some 88, .mv (.t 3), none, 0, []⟩,
    ⟨some 91, .load (some 3) (.t 1), none, 3, []⟩,
    ⟨some 89, .call (.f 69) [(.t 88)], none, 1, [3]⟩,
    ⟨some 90, .call (.f 69) [(.t 89)], none, 2, [3]⟩,
    ⟨some 92, .call (.f 101) [(.t 90), (.t 91)], none, 4, []⟩,
    ⟨some 93, .un .not (.t 92), none, 5, []⟩,
    ⟨some 94, .mv (.t 93), none, 6, []⟩,
    ⟨some 95, .mv (.t 6), some (94, false), 7, []⟩,
    ⟨some 98, .load (some 3) (.t 1), some (94, false), 10, []⟩,
    ⟨some 96, .call (.f 71) [(.t 95)], some (94, false), 8, [10]⟩,
    ⟨some 97, .call (.f 71) [(.t 96)], some (94, false), 9, [10]⟩,
    ⟨some 99, .call (.f 101) [(.t 97), (.t 98)], some (94, false), 11, []⟩,
    ⟨some 100, .un .not (.t 99), some (94, false), 12, []⟩,
    ⟨some 101, .pick (.t 94) (.c (.bool true)) (.t 100), none, 13, []⟩,
    ⟨some 102, .mv (.t 101), none, 14, []⟩,
    ⟨some 103, .mv (.t 5), some (102, false), 15, []⟩,
    ⟨some 106, .mv (.t 7), some (102, false), 18, []⟩,
    ⟨some 104, .call (.f 69) [(.t 103)], some (102, false), 16, []⟩,
    ⟨some 105, .call (.f 45) [(.t 104)], some (102, false), 17, []⟩,
    ⟨some 107, .call (.f 71) [(.t 106)], some (102, false), 19, []⟩,
    ⟨some 108, .call (.f 71) [(.t 107)], some (102, false), 20, []⟩,
    ⟨some 109, .call (.f 45) [(.t 108)], some (102, false), 21, []⟩,
    ⟨some 110, .call (.f 84) [(.t 105), (.t 109)], some (102, false), 22, []⟩,
    ⟨some 111, .un .not (.t 110), some (102, false), 23, []⟩,
    ⟨some 112, .pick (.t 102) (.c (.bool true)) (.t 111), none, 24, []⟩,
    ⟨some 113, .mv (.t 112), none, 25, []⟩,
    ⟨some 114, .mv (.t 5), some (113, false), 26, []⟩,
    ⟨some 116, .mv (.t 8), some (113, false), 28, []⟩,
    ⟨some 115, .call (.f 52) [(.t 114)], some (113, false), 27, []⟩,
    ⟨some 117, .bin .neq .num (.t 115) (.t 116), some (113, false), 29, []⟩,
    ⟨some 118, .pick (.t 113) (.c (.bool true)) (.t 117), none, 30, []⟩])
  (.cond (.t 118) (.seq (.reg false [2] [⟨some 2, .mv (.c (.bool false)), none, 0, []⟩])
  (.ret))
  (.skip)))
  (.seq (.seq (.reg false [1, 3, 5, 8, 9] [⟨some 9, .mv (.c (.int .i64 0)), none, 0, []⟩])
  (.block 0 (.loop [1, 3, 5, 8, 9] burinlaw2_BitmapTurns_l0)))
  (.seq (.reg false [1, 3, 8] [⟨some 144, .mv (.t 3), none, 0, []⟩,
    ⟨some 145, .call (.f 66) [(.t 144)], none, 0, []⟩])
  (.seq (.seq (.reg true [1, 3, 161] [⟨some 146, .mv (.t 3), none, 0, []⟩,
    ⟨some 148, .fad 0 (.t 1), none, 2, []⟩,
    ⟨some 149, .load none (.t 148), none, 3, []⟩,
    ⟨some 150, .fad 1 (.t 1), none, 4, []⟩,
    ⟨some 151, .load none (.t 150), none, 5, []⟩,
    ⟨some 152, .bin .mul .num (.t 149) (.t 151), none, 6, []⟩,
    ⟨some 153, .mv (.t 8), none, 7, []⟩,
    ⟨some 154, .bin .sub .num (.t 152) (.t 153), none, 8, []⟩,
    ⟨some 147, .call (.f 52) [(.t 146)], none, 1, [3, 5]⟩,
    ⟨some 155, .bin .neq .num (.t 147) (.t 154), none, 9, []⟩,
    ⟨some 156, .mv (.t 155), none, 10, []⟩,
    ⟨some 157, .mv (.t 3), some (156, false), 11, []⟩,
    ⟨some 158, .call (.f 45) [(.t 157)], some (156, false), 12, []⟩,
    ⟨some 159, .call (.f 76) [(.t 158)], some (156, false), 13, []⟩,
    ⟨some 160, .un .not (.t 159), some (156, false), 14, []⟩,
    ⟨some 161, .pick (.t 156) (.c (.bool true)) (.t 160), none, 15, []⟩])
  (.cond (.t 161) (.seq (.reg false [2] [⟨some 2, .mv (.c (.bool false)), none, 0, []⟩])
  (.ret))
  (.skip)))
  (.seq (.reg false [1, 3] [⟨some 162, .mv (.t 3), none, 0, []⟩,
    ⟨some 163, .call (.f 66) [(.t 162)], none, 0, []⟩])
  (.seq (.reg false [2] [⟨some 164, .mv (.t 3), none, 0, []⟩,
    ⟨some 165, .load (some 3) (.t 1), none, 0, []⟩,
    ⟨some 166, .call (.f 101) [(.t 164), (.t 165)], none, 0, []⟩,
    ⟨some 167, .mv (.t 166), none, 0, []⟩,
    ⟨some 168, .call (.f 99) [], some (167, true), 0, []⟩,
    ⟨some 169, .pick (.t 167) (.t 168) (.c (.bool false)), none, 0, []⟩,
    ⟨some 2, .mv (.t 169), none, 0, []⟩])
  (.ret))))))))))))))))⟩

/-- A program that has them. -/
structure HasL2Turns (P : Prog) : Prop where
  h_burinlaw2_BitmapTurns : P 107 = some burinlaw2_BitmapTurns

end Go.Ab
