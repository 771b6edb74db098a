/- The texts of functions of the given program, for the abstract machine: written by wip/tools/gen.py out of Lean's print of the translation. Conditions: none; definitions alone. -/
import Derived.Test.YtfgecfbknpifjaaK1
set_option linter.all false
namespace Go.Ab
-- burinlaw10_CompsMirrored: 198, parameters ?; loops burinlaw10_CompsMirrored_l0 [1 ?, 5 ?, 7 ?, 9 ?, 10 ?]; burinlaw10_CompsMirrored_l1 [1 ?, 5 ?, 7 ?, 9 ?, 10 ?, 11 ?, 12 ?, 13 ?]

def burinlaw10_CompsMirrored_l1 : Cd := .seq (.seq (.reg false [1, 5, 7, 9, 10, 11, 12, 13, 102] [⟨some 95, .mv (.t 13), none, 0, []⟩,
    ⟨some 96, .mv (.t 7), none, 0, []⟩,
    ⟨some 97, .len none (.t 96), none, 0, []⟩,
    ⟨some 98, .bin .lss .num (.t 95) (.t 97), none, 0, []⟩,
    ⟨some 99, .mv (.t 98), none, 0, []⟩,
    ⟨some 100, .mv (.t 12), some (99, true), 0, []⟩,
    ⟨some 101, .un .not (.t 100), some (99, true), 0, []⟩,
    ⟨some 102, .pick (.t 99) (.t 101) (.c (.bool false)), none, 0, []⟩])
  (.cond (.t 102) (.skip)
  (.exit 2)))
  (.seq (.block 3 (.seq (.reg true [1, 5, 7, 9, 10, 11, 12, 13, 154] [⟨some 105, .mv (.t 9), none, 0, []⟩,
    ⟨some 106, .mv (.t 13), none, 1, []⟩,
    ⟨some 107, .iad none 1 (.t 105) (.t 106), none, 2, []⟩,
    ⟨some 108, .load none (.t 107), none, 3, []⟩,
    ⟨some 109, .un .not (.t 108), none, 4, []⟩,
    ⟨some 110, .mv (.t 109), none, 5, []⟩,
    ⟨some 111, .mv (.t 7), some (110, true), 6, []⟩,
    ⟨some 112, .mv (.t 13), some (110, true), 7, []⟩,
    ⟨some 113, .iad none 5 (.t 111) (.t 112), some (110, true), 8, []⟩,
    ⟨some 114, .fad 1 (.t 113), some (110, true), 9, []⟩,
    ⟨some 115, .load none (.t 114), some (110, true), 10, []⟩,
    ⟨some 116, .mv (.t 5), some (110, true), 11, []⟩,
    ⟨some 117, .mv (.t 10), some (110, true), 12, []⟩,
    ⟨some 118, .iad none 5 (.t 116) (.t 117), some (110, true), 13, []⟩,
    ⟨some 119, .fad 1 (.t 118), some (110, true), 14, []⟩,
    ⟨some 120, .load none (.t 119), some (110, true), 15, []⟩,
    ⟨some 121, .bin .eql .num (.t 115) (.t 120), some (110, true), 16, []⟩,
    ⟨some 122, .pick (.t 110) (.t 121) (.c (.bool false)), none, 17, []⟩,
    ⟨some 123, .mv (.t 122), none, 18, []⟩,
    ⟨some 124, .mv (.t 7), some (123, true), 19, []⟩,
    ⟨some 125, .mv (.t 13), some (123, true), 20, []⟩,
    ⟨some 126, .iad none 5 (.t 124) (.t 125), some (123, true), 21, []⟩,
    ⟨some 127, .fad 0 (.t 126), some (123, true), 22, []⟩,
    ⟨some 128, .load none (.t 127), some (123, true), 23, []⟩,
    ⟨some 129, .fad 0 (.t 1), some (123, true), 24, []⟩,
    ⟨some 130, .load none (.t 129), some (123, true), 25, []⟩,
    ⟨some 131, .mv (.t 5), some (123, true), 26, []⟩,
    ⟨some 132, .mv (.t 10), some (123, true), 27, []⟩,
    ⟨some 133, .iad none 5 (.t 131) (.t 132), some (123, true), 28, []⟩,
    ⟨some 134, .fad 0 (.t 133), some (123, true), 29, []⟩,
    ⟨some 135, .load none (.t 134), some (123, true), 30, []⟩,
    ⟨some 136, .bin .sub .num (.t 130) (.t 135), some (123, true), 31, []⟩,
    ⟨some 137, .mv (.t 5), some (123, true), 32, []⟩,
    ⟨some 138, .mv (.t 10), some (123, true), 33, []⟩,
    ⟨some 139, .iad none 5 (.t 137) (.t 138), some (123, true), 34, []⟩,
    ⟨some 140, .fad 2 (.t 139), some (123, true), 35, []⟩,
    ⟨some 141, .fad 0 (.t 140), some (123, true), 36, []⟩,
    ⟨some 142, .load none (.t 141), some (123, true), 37, []⟩,
    ⟨some 143, .bin .sub .num (.t 136) (.t 142), some (123, true), 38, []⟩,
    ⟨some 144, .bin .eql .num (.t 128) (.t 143), some (123, true), 39, []⟩,
    ⟨some 145, .pick (.t 123) (.t 144) (.c (.bool false)), none, 40, []⟩,
    ⟨some 146, .mv (.t 145), none, 41, []⟩,
    ⟨some 147, .mv (.t 7), some (146, true), 42, []⟩,
    ⟨some 148, .mv (.t 13), some (146, true), 43, []⟩,
    ⟨some 149, .iad none 5 (.t 147) (.t 148), some (146, true), 44, []⟩,
    ⟨some 150, .fad 2 (.t 149), some (146, true), 45, []⟩,
    ⟨some 151, .load (some 3) (.t 150), some (146, true), 46, []⟩,
    ⟨some 152, .load (some 3) (.t 11), some (146, true), 47, []⟩,
    ⟨some 153, .call (.f 84) [(.t 151), (.t 152)], some (146, true), 48, []⟩,
    ⟨some 154, .pick (.t 146) (.t 153) (.c (.bool false)), none, 49, []⟩])
  (.cond (.t 154) (.seq (.reg false [1, 5, 7, 9, 10, 11, 13] [⟨some 155, .mv (.t 9), none, 0, []⟩,
    ⟨some 156, .mv (.t 13), none, 0, []⟩,
    ⟨some 157, .iad none 1 (.t 155) (.t 156), none, 0, []⟩,
    ⟨none, .store 1 (.t 157) (.c (.bool true)), none, 0, []⟩])
  (.reg false [1, 5, 7, 9, 10, 11, 12, 13] [⟨some 12, .mv (.c (.bool true)), none, 0, []⟩]))
  (.skip))))
  (.reg false [1, 5, 7, 9, 10, 11, 12, 13] [⟨some 103, .mv (.t 13), none, 0, []⟩,
    ⟨some 104, .bin .add .num (.t 103) (.c (.int .i64 1)), none, 0, []⟩,
    ⟨some 13, .mv (.t 104), none, 0, []⟩]))
def burinlaw10_CompsMirrored_l0 : Cd := .seq (.seq (.reg false [1, 5, 7, 9, 10, 79] [⟨some 76, .mv (.t 10), none, 0, []⟩,
    ⟨some 77, .mv (.t 5), none, 0, []⟩,
    ⟨some 78, .len none (.t 77), none, 0, []⟩,
    ⟨some 79, .bin .lss .num (.t 76) (.t 78), none, 0, []⟩])
  (.cond (.t 79) (.skip)
  (.exit 0)))
  (.seq (.block 1 (.seq (.seq (.reg false [1, 5, 7, 9, 10, 88] [⟨some 82, .mv (.t 5), none, 0, []⟩,
    ⟨some 83, .mv (.t 10), none, 0, []⟩,
    ⟨some 84, .iad none 5 (.t 82) (.t 83), none, 0, []⟩,
    ⟨some 85, .fad 2 (.t 84), none, 0, []⟩,
    ⟨some 86, .load (some 3) (.t 85), none, 0, []⟩,
    ⟨some 87, .call (.f 76) [(.t 86)], none, 0, []⟩,
    ⟨some 88, .un .not (.t 87), none, 0, []⟩])
  (.cond (.t 88) (.seq (.reg false [2] [⟨some 2, .mv (.c (.bool false)), none, 0, []⟩])
  (.ret))
  (.skip)))
  (.seq (.reg false [1, 5, 7, 9, 10, 11] [⟨some 89, .mv (.t 5), none, 0, []⟩,
    ⟨some 90, .mv (.t 10), none, 0, []⟩,
    ⟨some 91, .iad none 5 (.t 89) (.t 90), none, 0, []⟩,
    ⟨some 92, .fad 2 (.t 91), none, 0, []⟩,
    ⟨some 93, .load (some 3) (.t 92), none, 0, []⟩,
    ⟨some 94, .call (.f 92) [(.t 93)], none, 0, []⟩,
    ⟨some 11, .alloc [.int .i64 0, .int .i64 0, .sl none 0 0 0], none, 0, []⟩,
    ⟨none, .store 3 (.t 11) (.t 94), none, 0, []⟩])
  (.seq (.reg false [1, 5, 7, 9, 10, 11, 12] [⟨some 12, .mv (.c (.bool false)), none, 0, []⟩])
  (.seq (.seq (.reg false [1, 5, 7, 9, 10, 11, 12, 13] [⟨some 13, .mv (.c (.int .i64 0)), none, 0, []⟩])
  (.block 2 (.loop [1, 5, 7, 9, 10, 11, 12, 13] burinlaw10_CompsMirrored_l1)))
  (.seq (.reg false [1, 5, 7, 9, 10, 159] [⟨some 158, .mv (.t 12), none, 0, []⟩,
    ⟨some 159, .un .not (.t 158), none, 0, []⟩])
  (.cond (.t 159) (.seq (.reg false [2] [⟨some 2, .mv (.c (.bool false)), none, 0, []⟩])
  (.ret))
  (.skip))))))))
  (.reg false [1, 5, 7, 9, 10] [⟨some 80, .mv (.t 10), none, 0, []⟩,
    ⟨some 81, .bin .add .num (.t 80) (.c (.int .i64 1)), none, 0, []⟩,
    ⟨some 10, .mv (.t 81), none, 0, []⟩]))
/-- burin/burinlaw10.CompsMirrored -/
def burinlaw10_CompsMirrored : AFun := ⟨1, 161, true, [.t 2],
  .seq (.reg false [1] [⟨some 1, .box 3 (.t 0), none, 0, []⟩,
    ⟨some 2, .mv (.c (.bool false)), none, 0, []⟩])
  (.seq (.seq (.reg false [1, 30] [⟨some 14, .load (some 3) (.t 1), none, 0, []⟩,
    ⟨some 15, .call (.f 76) [(.t 14)], none, 0, []⟩,
    ⟨some 16, .un .not (.t 15), none, 0, []⟩,
    ⟨some 17, .mv (.t 16), none, 0, []⟩,
    ⟨some 18, .fad 0 (.t 1), some (17, false), 0, []⟩,
    ⟨some 19, .load none (.t 18), some (17, false), 0, []⟩,
    ⟨some 20, .fad 1 (.t 1), some (17, false), 0, []⟩,
    ⟨some 21, .load none (.t 20), some (17, false), 0, []⟩,
    ⟨some 22, .bin .mul .num (.t 19) (.t 21), some (17, false), 0, []⟩,
    ⟨some 23, .bin .gtr .num (.t 22) (.c (.int .i64 3000)), some (17, false), 0, []⟩,
    ⟨some 24, .pick (.t 17) (.c (.bool true)) (.t 23), none, 0, []⟩,
    ⟨some 25, .mv (.t 24), none, 0, []⟩,
    ⟨some 26, .load (some 3) (.t 1), some (25, false), 0, []⟩,
    ⟨some 27, .bslice 3 [.int .i64 0, .int .i64 0, .sl none 0 0 0] 1 [(0, (.t 26))], some (25, false), 0, []⟩,
    ⟨some 28, .call (.f 98) [(.t 27), (.c (.int .i64 20000))], some (25, false), 0, []⟩,
    ⟨some 29, .un .not (.t 28), some (25, false), 0, []⟩,
    ⟨some 30, .pick (.t 25) (.c (.bool true)) (.t 29), none, 0, []⟩])
  (.cond (.t 30) (.seq (.reg false [2] [⟨some 31, .call (.f 178) [], none, 0, []⟩,
    ⟨some 2, .mv (.t 31), none, 0, []⟩])
  (.ret))
  (.skip)))
  (.seq (.reg false [1, 3, 4] [⟨some 33, .load (some 3) (.t 1), none, 0, []⟩,
    ⟨some 34, .call (.f 44) [(.t 33)], none, 0, []⟩,
    ⟨some 32, .mv (.t 34), none, 0, []⟩,
    ⟨some 35, .ext 0 (.t 32), none, 0, []⟩,
    ⟨some 36, .ext 1 (.t 32), none, 0, []⟩,
    ⟨some 3, .mv (.t 35), none, 0, []⟩,
    ⟨some 4, .mv (.t 36), none, 0, []⟩])
  (.seq (.seq (.reg false [1, 3, 47] [⟨some 37, .mv (.t 4), none, 0, []⟩,
    ⟨some 38, .bin .neq .num (.t 37) (.c (.int .i64 0)), none, 0, []⟩,
    ⟨some 39, .mv (.t 38), none, 0, []⟩,
    ⟨some 40, .mv (.t 3), some (39, false), 0, []⟩,
    ⟨some 41, .bin .eql .ptr (.t 40) (.c (.ptr none)), some (39, false), 0, []⟩,
    ⟨some 42, .pick (.t 39) (.c (.bool true)) (.t 41), none, 0, []⟩,
    ⟨some 43, .mv (.t 42), none, 0, []⟩,
    ⟨some 44, .mv (.t 3), some (43, false), 0, []⟩,
    ⟨some 45, .call (.f 69) [(.t 44)], some (43, false), 0, []⟩,
    ⟨some 46, .bin .eql .ptr (.t 45) (.c (.ptr none)), some (43, false), 0, []⟩,
    ⟨some 47, .pick (.t 43) (.c (.bool true)) (.t 46), none, 0, []⟩])
  (.cond (.t 47) (.seq (.reg false [2] [⟨some 2, .mv (.c (.bool false)), none, 0, []⟩])
  (.ret))
  (.skip)))
  (.seq (.reg false [1, 3, 5, 6] [⟨some 49, .load (some 3) (.t 1), none, 0, []⟩,
    ⟨some 50, .call (.f 181) [(.t 49)], none, 0, []⟩,
    ⟨some 48, .mv (.t 50), none, 0, []⟩,
    ⟨some 51, .ext 0 (.t 48), none, 0, []⟩,
    ⟨some 52, .ext 1 (.t 48), none, 0, []⟩,
    ⟨some 5, .mv (.t 51), none, 0, []⟩,
    ⟨some 6, .mv (.t 52), none, 0, []⟩])
  (.seq (.reg false [1, 5, 6, 7, 8] [⟨some 54, .mv (.t 3), none, 0, []⟩,
    ⟨some 55, .call (.f 69) [(.t 54)], none, 0, []⟩,
    ⟨some 56, .call (.f 45) [(.t 55)], none, 0, []⟩,
    ⟨some 57, .call (.f 181) [(.t 56)], none, 0, []⟩,
    ⟨some 53, .mv (.t 57), none, 0, []⟩,
    ⟨some 58, .ext 0 (.t 53), none, 0, []⟩,
    ⟨some 59, .ext 1 (.t 53), none, 0, []⟩,
    ⟨some 7, .mv (.t 58), none, 0, []⟩,
    ⟨some 8, .mv (.t 59), none, 0, []⟩])
  (.seq (.seq (.reg false [1, 5, 7, 72] [⟨some 60, .mv (.t 6), none, 0, []⟩,
    ⟨some 61, .bin .neq .num (.t 60) (.c (.int .i64 0)), none, 0, []⟩,
    ⟨some 62, .mv (.t 61), none, 0, []⟩,
    ⟨some 63, .mv (.t 8), some (62, false), 0, []⟩,
    ⟨some 64, .bin .neq .num (.t 63) (.c (.int .i64 0)), some (62, false), 0, []⟩,
    ⟨some 65, .pick (.t 62) (.c (.bool true)) (.t 64), none, 0, []⟩,
    ⟨some 66, .mv (.t 65), none, 0, []⟩,
    ⟨some 67, .mv (.t 5), some (66, false), 0, []⟩,
    ⟨some 68, .len none (.t 67), some (66, false), 0, []⟩,
    ⟨some 69, .mv (.t 7), some (66, false), 0, []⟩,
    ⟨some 70, .len none (.t 69), some (66, false), 0, []⟩,
    ⟨some 71, .bin .neq .num (.t 68) (.t 70), some (66, false), 0, []⟩,
    ⟨some 72, .pick (.t 66) (.c (.bool true)) (.t 71), none, 0, []⟩])
  (.cond (.t 72) (.seq (.reg false [2] [⟨some 2, .mv (.c (.bool false)), none, 0, []⟩])
  (.ret))
  (.skip)))
  (.seq (.reg false [1, 5, 7, 9] [⟨some 73, .mv (.t 7), none, 0, []⟩,
    ⟨some 74, .len none (.t 73), none, 0, []⟩,
    ⟨some 75, .mkslice 1 1 [.bool false] (.t 74) (.t 74), none, 0, []⟩,
    ⟨some 9, .mv (.t 75), none, 0, []⟩])
  (.seq (.seq (.reg false [1, 5, 7, 9, 10] [⟨some 10, .mv (.c (.int .i64 0)), none, 0, []⟩])
  (.block 0 (.loop [1, 5, 7, 9, 10] burinlaw10_CompsMirrored_l0)))
  (.seq (.reg false [2] [⟨some 160, .call (.f 178) [], none, 0, []⟩,
    ⟨some 2, .mv (.t 160), none, 0, []⟩])
  (.ret))))))))))⟩

/-- A program that has them. -/
structure HasL10Mirrored (P : Prog) : Prop where
  h_burinlaw10_CompsMirrored : P 198 = some burinlaw10_CompsMirrored

end Go.Ab
