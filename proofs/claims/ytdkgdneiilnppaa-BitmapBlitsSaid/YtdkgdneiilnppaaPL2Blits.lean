/- The texts of functions of the given program, for the abstract machine: written by wip/tools/gen.py out of Lean's print of the translation. Conditions: none; definitions alone. -/
import Derived.Test.YtdkgdneiilnppaaAb
set_option linter.all false
namespace Go.Ab
-- burinlaw2_BitmapBlits: 105, parameters ?; loops burinlaw2_BitmapBlits_l0 [1 ?, 3 ?, 7 ?, 8 ?, 9 ?, 10 ?, 11 ?, 12 ?, 13 ?, 14 ?]; burinlaw2_BitmapBlits_l1 [1 ?, 3 ?, 7 ?, 8 ?, 9 ?, 10 ?, 11 ?, 12 ?, 13 ?, 14 ?, 15 ?]

def burinlaw2_BitmapBlits_l1 : Cd := .seq (.seq (.reg false [1, 3, 7, 8, 9, 10, 11, 12, 13, 14, 15, 122] [⟨some 118, .mv (.t 15), none, 0, []⟩,
    ⟨some 119, .fad 0 (.t 1), none, 0, []⟩,
    ⟨some 120, .fad 0 (.t 119), none, 0, []⟩,
    ⟨some 121, .load none (.t 120), none, 0, []⟩,
    ⟨some 122, .bin .lss .num (.t 118) (.t 121), none, 0, []⟩])
  (.cond (.t 122) (.skip)
  (.exit 2)))
  (.seq (.block 3 (.seq (.reg false [1, 3, 7, 8, 9, 10, 11, 12, 13, 14, 15, 16] [⟨some 125, .mv (.t 15), none, 0, []⟩,
    ⟨some 126, .mv (.t 9), none, 0, []⟩,
    ⟨some 127, .bin .sub .num (.t 125) (.t 126), none, 0, []⟩,
    ⟨some 16, .mv (.t 127), none, 0, []⟩])
  (.seq (.reg false [1, 3, 7, 8, 9, 10, 11, 12, 13, 14, 15, 16, 17] [⟨some 128, .mv (.t 14), none, 0, []⟩,
    ⟨some 129, .mv (.t 10), none, 0, []⟩,
    ⟨some 130, .bin .sub .num (.t 128) (.t 129), none, 0, []⟩,
    ⟨some 17, .mv (.t 130), none, 0, []⟩])
  (.seq (.reg false [1, 3, 7, 8, 9, 10, 11, 12, 13, 14, 15, 16, 17, 18] [⟨some 131, .fad 0 (.t 1), none, 0, []⟩,
    ⟨some 132, .load (some 3) (.t 131), none, 0, []⟩,
    ⟨some 133, .mv (.t 15), none, 0, []⟩,
    ⟨some 134, .mv (.t 14), none, 0, []⟩,
    ⟨some 135, .call (.f 78) [(.t 132), (.t 133), (.t 134)], none, 0, []⟩,
    ⟨some 18, .mv (.t 135), none, 0, []⟩])
  (.seq (.seq (.reg false [1, 3, 7, 8, 9, 10, 11, 12, 13, 14, 15, 16, 17, 18, 181] [⟨some 136, .mv (.t 16), none, 0, []⟩,
    ⟨some 137, .bin .geq .num (.t 136) (.c (.int .i64 0)), none, 0, []⟩,
    ⟨some 138, .mv (.t 137), none, 0, []⟩,
    ⟨some 139, .mv (.t 16), some (138, true), 0, []⟩,
    ⟨some 140, .mv (.t 11), some (138, true), 0, []⟩,
    ⟨some 141, .bin .lss .num (.t 139) (.t 140), some (138, true), 0, []⟩,
    ⟨some 142, .pick (.t 138) (.t 141) (.c (.bool false)), none, 0, []⟩,
    ⟨some 143, .mv (.t 142), none, 0, []⟩,
    ⟨some 144, .mv (.t 17), some (143, true), 0, []⟩,
    ⟨some 145, .bin .geq .num (.t 144) (.c (.int .i64 0)), some (143, true), 0, []⟩,
    ⟨some 146, .pick (.t 143) (.t 145) (.c (.bool false)), none, 0, []⟩,
    ⟨some 147, .mv (.t 146), none, 0, []⟩,
    ⟨some 148, .mv (.t 17), some (147, true), 0, []⟩,
    ⟨some 149, .mv (.t 12), some (147, true), 0, []⟩,
    ⟨some 150, .bin .lss .num (.t 148) (.t 149), some (147, true), 0, []⟩,
    ⟨some 151, .pick (.t 147) (.t 150) (.c (.bool false)), none, 0, []⟩,
    ⟨some 152, .mv (.t 151), none, 0, []⟩,
    ⟨some 153, .mv (.t 7), some (152, true), 0, []⟩,
    ⟨some 154, .mv (.t 16), some (152, true), 0, []⟩,
    ⟨some 155, .bin .add .num (.t 153) (.t 154), some (152, true), 0, []⟩,
    ⟨some 156, .bin .geq .num (.t 155) (.c (.int .i64 0)), some (152, true), 0, []⟩,
    ⟨some 157, .pick (.t 152) (.t 156) (.c (.bool false)), none, 0, []⟩,
    ⟨some 158, .mv (.t 157), none, 0, []⟩,
    ⟨some 159, .mv (.t 7), some (158, true), 0, []⟩,
    ⟨some 160, .mv (.t 16), some (158, true), 0, []⟩,
    ⟨some 161, .bin .add .num (.t 159) (.t 160), some (158, true), 0, []⟩,
    ⟨some 162, .fad 3 (.t 1), some (158, true), 0, []⟩,
    ⟨some 163, .fad 0 (.t 162), some (158, true), 0, []⟩,
    ⟨some 164, .load none (.t 163), some (158, true), 0, []⟩,
    ⟨some 165, .bin .lss .num (.t 161) (.t 164), some (158, true), 0, []⟩,
    ⟨some 166, .pick (.t 158) (.t 165) (.c (.bool false)), none, 0, []⟩,
    ⟨some 167, .mv (.t 166), none, 0, []⟩,
    ⟨some 168, .mv (.t 8), some (167, true), 0, []⟩,
    ⟨some 169, .mv (.t 17), some (167, true), 0, []⟩,
    ⟨some 170, .bin .add .num (.t 168) (.t 169), some (167, true), 0, []⟩,
    ⟨some 171, .bin .geq .num (.t 170) (.c (.int .i64 0)), some (167, true), 0, []⟩,
    ⟨some 172, .pick (.t 167) (.t 171) (.c (.bool false)), none, 0, []⟩,
    ⟨some 173, .mv (.t 172), none, 0, []⟩,
    ⟨some 174, .mv (.t 8), some (173, true), 0, []⟩,
    ⟨some 175, .mv (.t 17), some (173, true), 0, []⟩,
    ⟨some 176, .bin .add .num (.t 174) (.t 175), some (173, true), 0, []⟩,
    ⟨some 177, .fad 3 (.t 1), some (173, true), 0, []⟩,
    ⟨some 178, .fad 1 (.t 177), some (173, true), 0, []⟩,
    ⟨some 179, .load none (.t 178), some (173, true), 0, []⟩,
    ⟨some 180, .bin .lss .num (.t 176) (.t 179), some (173, true), 0, []⟩,
    ⟨some 181, .pick (.t 173) (.t 180) (.c (.bool false)), none, 0, []⟩])
  (.cond (.t 181) (.reg false [1, 3, 7, 8, 9, 10, 11, 12, 13, 14, 15, 18] [⟨some 182, .mv (.t 13), none, 0, []⟩,
    ⟨some 183, .mv (.t 18), none, 0, []⟩,
    ⟨some 184, .fad 3 (.t 1), none, 0, []⟩,
    ⟨some 185, .load (some 3) (.t 184), none, 0, []⟩,
    ⟨some 186, .mv (.t 7), none, 0, []⟩,
    ⟨some 187, .mv (.t 16), none, 0, []⟩,
    ⟨some 188, .bin .add .num (.t 186) (.t 187), none, 0, []⟩,
    ⟨some 189, .mv (.t 8), none, 0, []⟩,
    ⟨some 190, .mv (.t 17), none, 0, []⟩,
    ⟨some 191, .bin .add .num (.t 189) (.t 190), none, 0, []⟩,
    ⟨some 192, .call (.f 78) [(.t 185), (.t 188), (.t 191)], none, 0, []⟩,
    ⟨some 193, .call (.f 80) [(.t 182), (.t 183), (.t 192)], none, 0, []⟩,
    ⟨some 18, .mv (.t 193), none, 0, []⟩])
  (.skip)))
  (.seq (.reg false [1, 3, 7, 8, 9, 10, 11, 12, 13, 14, 15, 199] [⟨some 194, .mv (.t 3), none, 0, []⟩,
    ⟨some 195, .mv (.t 15), none, 0, []⟩,
    ⟨some 196, .mv (.t 14), none, 0, []⟩,
    ⟨some 197, .call (.f 48) [(.t 194), (.t 195), (.t 196)], none, 0, []⟩,
    ⟨some 198, .mv (.t 18), none, 0, []⟩,
    ⟨some 199, .bin .neq .num (.t 197) (.t 198), none, 0, []⟩])
  (.cond (.t 199) (.seq (.reg false [2] [⟨some 2, .mv (.c (.bool false)), none, 0, []⟩])
  (.ret))
  (.skip))))))))
  (.reg false [1, 3, 7, 8, 9, 10, 11, 12, 13, 14, 15] [⟨some 123, .mv (.t 15), none, 0, []⟩,
    ⟨some 124, .bin .add .num (.t 123) (.c (.int .i64 1)), none, 0, []⟩,
    ⟨some 15, .mv (.t 124), none, 0, []⟩]))
def burinlaw2_BitmapBlits_l0 : Cd := .seq (.seq (.reg false [1, 3, 7, 8, 9, 10, 11, 12, 13, 14, 115] [⟨some 111, .mv (.t 14), none, 0, []⟩,
    ⟨some 112, .fad 0 (.t 1), none, 0, []⟩,
    ⟨some 113, .fad 1 (.t 112), none, 0, []⟩,
    ⟨some 114, .load none (.t 113), none, 0, []⟩,
    ⟨some 115, .bin .lss .num (.t 111) (.t 114), none, 0, []⟩])
  (.cond (.t 115) (.skip)
  (.exit 0)))
  (.seq (.block 1 (.seq (.reg false [1, 3, 7, 8, 9, 10, 11, 12, 13, 14, 15] [⟨some 15, .mv (.c (.int .i64 0)), none, 0, []⟩])
  (.block 2 (.loop [1, 3, 7, 8, 9, 10, 11, 12, 13, 14, 15] burinlaw2_BitmapBlits_l1))))
  (.reg false [1, 3, 7, 8, 9, 10, 11, 12, 13, 14] [⟨some 116, .mv (.t 14), none, 0, []⟩,
    ⟨some 117, .bin .add .num (.t 116) (.c (.int .i64 1)), none, 0, []⟩,
    ⟨some 14, .mv (.t 117), none, 0, []⟩]))
/-- burin/burinlaw2.BitmapBlits -/
def burinlaw2_BitmapBlits : AFun := ⟨1, 201, true, [.t 2],
  .seq (.reg false [1] [⟨some 1, .box 14 (.t 0), none, 0, []⟩,
    ⟨some 2, .mv (.c (.bool false)), none, 0, []⟩])
  (.seq (.seq (.reg false [1, 37] [⟨some 19, .fad 0 (.t 1), none, 0, []⟩,
    ⟨some 20, .load (some 3) (.t 19), none, 0, []⟩,
    ⟨some 21, .call (.f 76) [(.t 20)], none, 0, []⟩,
    ⟨some 22, .un .not (.t 21), none, 0, []⟩,
    ⟨some 23, .mv (.t 22), none, 0, []⟩,
    ⟨some 24, .fad 3 (.t 1), some (23, false), 0, []⟩,
    ⟨some 25, .load (some 3) (.t 24), some (23, false), 0, []⟩,
    ⟨some 26, .call (.f 76) [(.t 25)], some (23, false), 0, []⟩,
    ⟨some 27, .un .not (.t 26), some (23, false), 0, []⟩,
    ⟨some 28, .pick (.t 23) (.c (.bool true)) (.t 27), none, 0, []⟩,
    ⟨some 29, .mv (.t 28), none, 0, []⟩,
    ⟨some 30, .fad 0 (.t 1), some (29, false), 0, []⟩,
    ⟨some 31, .load (some 3) (.t 30), some (29, false), 0, []⟩,
    ⟨some 32, .fad 3 (.t 1), some (29, false), 0, []⟩,
    ⟨some 33, .load (some 3) (.t 32), some (29, false), 0, []⟩,
    ⟨some 34, .bslice 3 [.int .i64 0, .int .i64 0, .sl none 0 0 0] 2 [(0, (.t 31)), (1, (.t 33))], some (29, false), 0, []⟩,
    ⟨some 35, .call (.f 98) [(.t 34), (.c (.int .i64 60000))], some (29, false), 0, []⟩,
    ⟨some 36, .un .not (.t 35), some (29, false), 0, []⟩,
    ⟨some 37, .pick (.t 29) (.c (.bool true)) (.t 36), none, 0, []⟩])
  (.cond (.t 37) (.seq (.reg false [2] [⟨some 38, .call (.f 99) [], none, 0, []⟩,
    ⟨some 2, .mv (.t 38), none, 0, []⟩])
  (.ret))
  (.skip)))
  (.seq (.reg false [1, 3, 4] [⟨some 40, .fad 0 (.t 1), none, 0, []⟩,
    ⟨some 41, .load (some 3) (.t 40), none, 0, []⟩,
    ⟨some 42, .call (.f 44) [(.t 41)], none, 0, []⟩,
    ⟨some 39, .mv (.t 42), none, 0, []⟩,
    ⟨some 43, .ext 0 (.t 39), none, 0, []⟩,
    ⟨some 44, .ext 1 (.t 39), none, 0, []⟩,
    ⟨some 3, .mv (.t 43), none, 0, []⟩,
    ⟨some 4, .mv (.t 44), none, 0, []⟩])
  (.seq (.reg false [1, 3, 4, 5, 6] [⟨some 46, .fad 3 (.t 1), none, 0, []⟩,
    ⟨some 47, .load (some 3) (.t 46), none, 0, []⟩,
    ⟨some 48, .call (.f 44) [(.t 47)], none, 0, []⟩,
    ⟨some 45, .mv (.t 48), none, 0, []⟩,
    ⟨some 49, .ext 0 (.t 45), none, 0, []⟩,
    ⟨some 50, .ext 1 (.t 45), none, 0, []⟩,
    ⟨some 5, .mv (.t 49), none, 0, []⟩,
    ⟨some 6, .mv (.t 50), none, 0, []⟩])
  (.seq (.seq (.reg false [1, 3, 5, 64] [⟨some 51, .mv (.t 4), none, 0, []⟩,
    ⟨some 52, .bin .neq .num (.t 51) (.c (.int .i64 0)), none, 0, []⟩,
    ⟨some 53, .mv (.t 52), none, 0, []⟩,
    ⟨some 54, .mv (.t 6), some (53, false), 0, []⟩,
    ⟨some 55, .bin .neq .num (.t 54) (.c (.int .i64 0)), some (53, false), 0, []⟩,
    ⟨some 56, .pick (.t 53) (.c (.bool true)) (.t 55), none, 0, []⟩,
    ⟨some 57, .mv (.t 56), none, 0, []⟩,
    ⟨some 58, .mv (.t 3), some (57, false), 0, []⟩,
    ⟨some 59, .bin .eql .ptr (.t 58) (.c (.ptr none)), some (57, false), 0, []⟩,
    ⟨some 60, .pick (.t 57) (.c (.bool true)) (.t 59), none, 0, []⟩,
    ⟨some 61, .mv (.t 60), none, 0, []⟩,
    ⟨some 62, .mv (.t 5), some (61, false), 0, []⟩,
    ⟨some 63, .bin .eql .ptr (.t 62) (.c (.ptr none)), some (61, false), 0, []⟩,
    ⟨some 64, .pick (.t 61) (.c (.bool true)) (.t 63), none, 0, []⟩])
  (.cond (.t 64) (.seq (.reg false [2] [⟨some 2, .mv (.c (.bool false)), none, 0, []⟩])
  (.ret))
  (.skip)))
  (.seq (.reg true [1, 3, 5, 7, 8, 9, 10] [⟨some 65, .fad 6 (.t 1), none, 0, []⟩,
    ⟨some 66, .iad (some 8) 1 (.t 65) (.c (.int .i64 0)), none, 1, []⟩,
    ⟨some 67, .load none (.t 66), none, 2, []⟩,
    ⟨some 68, .bin .rem .num (.t 67) (.c (.int .i64 200)), none, 3, []⟩,
    ⟨some 69, .fad 6 (.t 1), none, 4, []⟩,
    ⟨some 70, .iad (some 8) 1 (.t 69) (.c (.int .i64 1)), none, 5, []⟩,
    ⟨some 71, .load none (.t 70), none, 6, []⟩,
    ⟨some 72, .bin .rem .num (.t 71) (.c (.int .i64 200)), none, 7, []⟩,
    ⟨some 73, .fad 6 (.t 1), none, 8, []⟩,
    ⟨some 74, .iad (some 8) 1 (.t 73) (.c (.int .i64 2)), none, 9, []⟩,
    ⟨some 75, .load none (.t 74), none, 10, []⟩,
    ⟨some 76, .bin .rem .num (.t 75) (.c (.int .i64 200)), none, 11, []⟩,
    ⟨some 77, .fad 6 (.t 1), none, 12, []⟩,
    ⟨some 78, .iad (some 8) 1 (.t 77) (.c (.int .i64 3)), none, 13, []⟩,
    ⟨some 79, .load none (.t 78), none, 14, []⟩,
    ⟨some 80, .bin .rem .num (.t 79) (.c (.int .i64 200)), none, 15, []⟩,
    ⟨some 7, .mv (.t 68), none, 16, []⟩,
    ⟨some 8, .mv (.t 72), none, 17, []⟩,
    ⟨some 9, .mv (.t 76), none, 18, []⟩,
    ⟨some 10, .mv (.t 80), none, 19, []⟩])
  (.seq (.reg false [1, 3, 5, 7, 8, 9, 10, 11] [⟨some 81, .fad 6 (.t 1), none, 0, []⟩,
    ⟨some 82, .iad (some 8) 1 (.t 81) (.c (.int .i64 4)), none, 0, []⟩,
    ⟨some 83, .load none (.t 82), none, 0, []⟩,
    ⟨some 84, .call (.f 29) [(.t 83), (.c (.int .i64 300))], none, 0, []⟩,
    ⟨some 11, .mv (.t 84), none, 0, []⟩])
  (.seq (.reg false [1, 3, 5, 7, 8, 9, 10, 11, 12] [⟨some 85, .fad 6 (.t 1), none, 0, []⟩,
    ⟨some 86, .iad (some 8) 1 (.t 85) (.c (.int .i64 5)), none, 0, []⟩,
    ⟨some 87, .load none (.t 86), none, 0, []⟩,
    ⟨some 88, .call (.f 29) [(.t 87), (.c (.int .i64 300))], none, 0, []⟩,
    ⟨some 12, .mv (.t 88), none, 0, []⟩])
  (.seq (.reg false [1, 3, 5, 7, 8, 9, 10, 11, 12, 13] [⟨some 89, .fad 6 (.t 1), none, 0, []⟩,
    ⟨some 90, .iad (some 8) 1 (.t 89) (.c (.int .i64 6)), none, 0, []⟩,
    ⟨some 91, .load none (.t 90), none, 0, []⟩,
    ⟨some 92, .call (.f 29) [(.t 91), (.c (.int .i64 5))], none, 0, []⟩,
    ⟨some 13, .mv (.t 92), none, 0, []⟩])
  (.seq (.seq (.reg false [1, 3, 7, 8, 9, 10, 11, 12, 13, 110] [⟨some 93, .mv (.t 3), none, 0, []⟩,
    ⟨some 94, .mv (.t 5), none, 0, []⟩,
    ⟨some 95, .mv (.t 7), none, 0, []⟩,
    ⟨some 96, .mv (.t 8), none, 0, []⟩,
    ⟨some 97, .mv (.t 11), none, 0, []⟩,
    ⟨some 98, .mv (.t 12), none, 0, []⟩,
    ⟨some 99, .mv (.t 9), none, 0, []⟩,
    ⟨some 100, .mv (.t 10), none, 0, []⟩,
    ⟨some 101, .mv (.t 13), none, 0, []⟩,
    ⟨some 102, .call (.f 64) [(.t 93), (.t 94), (.t 95), (.t 96), (.t 97), (.t 98), (.t 99), (.t 100), (.t 101)], none, 0, []⟩,
    ⟨some 103, .bin .neq .num (.t 102) (.c (.int .i64 0)), none, 0, []⟩,
    ⟨some 104, .mv (.t 103), none, 0, []⟩,
    ⟨some 105, .mv (.t 5), some (104, false), 0, []⟩,
    ⟨some 106, .fad 3 (.t 1), some (104, false), 0, []⟩,
    ⟨some 107, .load (some 3) (.t 106), some (104, false), 0, []⟩,
    ⟨some 108, .call (.f 101) [(.t 105), (.t 107)], some (104, false), 0, []⟩,
    ⟨some 109, .un .not (.t 108), some (104, false), 0, []⟩,
    ⟨some 110, .pick (.t 104) (.c (.bool true)) (.t 109), none, 0, []⟩])
  (.cond (.t 110) (.seq (.reg false [2] [⟨some 2, .mv (.c (.bool false)), none, 0, []⟩])
  (.ret))
  (.skip)))
  (.seq (.seq (.reg false [1, 3, 7, 8, 9, 10, 11, 12, 13, 14] [⟨some 14, .mv (.c (.int .i64 0)), none, 0, []⟩])
  (.block 0 (.loop [1, 3, 7, 8, 9, 10, 11, 12, 13, 14] burinlaw2_BitmapBlits_l0)))
  (.seq (.reg false [2] [⟨some 200, .call (.f 99) [], none, 0, []⟩,
    ⟨some 2, .mv (.t 200), none, 0, []⟩])
  (.ret))))))))))))⟩

/-- A program that has them. -/
structure HasL2Blits (P : Prog) : Prop where
  h_burinlaw2_BitmapBlits : P 105 = some burinlaw2_BitmapBlits

end Go.Ab
