/- The texts of functions of the given program, for the abstract machine: written by wip/tools/gen.py out of Lean's print of the translation. Conditions: none; definitions alone. -/
import Derived.Test.YtfgecfbknpifjaaK1
set_option linter.all false
namespace Go.Ab
-- burinlaw10_CompsRing: 197, parameters ; loops burinlaw10_CompsRing_l0 [1 ?, 2 ?, 3 ?, 8 ?]; burinlaw10_CompsRing_l1 [1 ?, 2 ?, 3 ?, 8 ?, 9 ?]; burinlaw10_CompsRing_l2 [1 ?, 2 ?, 3 ?, 6 ?]; burinlaw10_CompsRing_l3 [1 ?, 2 ?, 3 ?, 6 ?, 7 ?]; burinlaw10_CompsRing_l4 [1 ?, 2 ?, 3 ?, 4 ?]; burinlaw10_CompsRing_l5 [1 ?, 2 ?, 3 ?, 4 ?, 5 ?]

def burinlaw10_CompsRing_l5 : Cd := .seq (.seq (.reg false [1, 2, 3, 4, 5, 24] [⟨some 23, .mv (.t 5), none, 0, []⟩,
    ⟨some 24, .bin .lss .num (.t 23) (.c (.int .i64 200)), none, 0, []⟩])
  (.cond (.t 24) (.skip)
  (.exit 2)))
  (.seq (.block 3 (.seq (.reg false [1, 2, 3, 4, 5, 47] [⟨some 27, .mv (.t 4), none, 0, []⟩,
    ⟨some 28, .bin .rem .num (.t 27) (.c (.int .i64 2)), none, 0, []⟩,
    ⟨some 29, .bin .eql .num (.t 28) (.c (.int .i64 0)), none, 0, []⟩,
    ⟨some 30, .mv (.t 29), none, 0, []⟩,
    ⟨some 31, .mv (.t 4), some (30, false), 0, []⟩,
    ⟨some 32, .bin .rem .num (.t 31) (.c (.int .i64 4)), some (30, false), 0, []⟩,
    ⟨some 33, .bin .eql .num (.t 32) (.c (.int .i64 1)), some (30, false), 0, []⟩,
    ⟨some 34, .mv (.t 33), some (30, false), 0, []⟩,
    ⟨some 35, .mv (.t 5), some (34, true), 0, []⟩,
    ⟨some 36, .bin .eql .num (.t 35) (.c (.int .i64 199)), some (34, true), 0, []⟩,
    ⟨some 37, .pick (.t 34) (.t 36) (.c (.bool false)), some (30, false), 0, []⟩,
    ⟨some 38, .pick (.t 30) (.c (.bool true)) (.t 37), none, 0, []⟩,
    ⟨some 39, .mv (.t 38), none, 0, []⟩,
    ⟨some 40, .mv (.t 4), some (39, false), 0, []⟩,
    ⟨some 41, .bin .rem .num (.t 40) (.c (.int .i64 4)), some (39, false), 0, []⟩,
    ⟨some 42, .bin .eql .num (.t 41) (.c (.int .i64 3)), some (39, false), 0, []⟩,
    ⟨some 43, .mv (.t 42), some (39, false), 0, []⟩,
    ⟨some 44, .mv (.t 5), some (43, true), 0, []⟩,
    ⟨some 45, .bin .eql .num (.t 44) (.c (.int .i64 0)), some (43, true), 0, []⟩,
    ⟨some 46, .pick (.t 43) (.t 45) (.c (.bool false)), some (39, false), 0, []⟩,
    ⟨some 47, .pick (.t 39) (.c (.bool true)) (.t 46), none, 0, []⟩])
  (.cond (.t 47) (.reg false [1, 2, 3, 4, 5] [⟨some 48, .load (some 3) (.t 1), none, 0, []⟩,
    ⟨some 49, .mv (.t 5), none, 0, []⟩,
    ⟨some 50, .mv (.t 4), none, 0, []⟩,
    ⟨some 51, .call (.f 79) [(.t 48), (.t 49), (.t 50), (.c (.int .i64 1))], none, 0, []⟩])
  (.skip))))
  (.reg false [1, 2, 3, 4, 5] [⟨some 25, .mv (.t 5), none, 0, []⟩,
    ⟨some 26, .bin .add .num (.t 25) (.c (.int .i64 1)), none, 0, []⟩,
    ⟨some 5, .mv (.t 26), none, 0, []⟩]))
def burinlaw10_CompsRing_l4 : Cd := .seq (.seq (.reg false [1, 2, 3, 4, 20] [⟨some 19, .mv (.t 4), none, 0, []⟩,
    ⟨some 20, .bin .lss .num (.t 19) (.c (.int .i64 201)), none, 0, []⟩])
  (.cond (.t 20) (.skip)
  (.exit 0)))
  (.seq (.block 1 (.seq (.reg false [1, 2, 3, 4, 5] [⟨some 5, .mv (.c (.int .i64 0)), none, 0, []⟩])
  (.block 2 (.loop [1, 2, 3, 4, 5] burinlaw10_CompsRing_l5))))
  (.reg false [1, 2, 3, 4] [⟨some 21, .mv (.t 4), none, 0, []⟩,
    ⟨some 22, .bin .add .num (.t 21) (.c (.int .i64 1)), none, 0, []⟩,
    ⟨some 4, .mv (.t 22), none, 0, []⟩]))
def burinlaw10_CompsRing_l3 : Cd := .seq (.seq (.reg false [1, 2, 3, 6, 7, 57] [⟨some 56, .mv (.t 7), none, 0, []⟩,
    ⟨some 57, .bin .lss .num (.t 56) (.c (.int .i64 150)), none, 0, []⟩])
  (.cond (.t 57) (.skip)
  (.exit 6)))
  (.seq (.block 7 (.reg false [1, 2, 3, 6, 7] [⟨some 60, .load (some 3) (.t 2), none, 0, []⟩,
    ⟨some 61, .mv (.t 7), none, 0, []⟩,
    ⟨some 62, .mv (.t 6), none, 0, []⟩,
    ⟨some 63, .mv (.t 7), none, 0, []⟩,
    ⟨some 64, .mv (.t 6), none, 0, []⟩,
    ⟨some 65, .bin .add .num (.t 63) (.t 64), none, 0, []⟩,
    ⟨some 66, .bin .rem .num (.t 65) (.c (.int .i64 2)), none, 0, []⟩,
    ⟨some 67, .call (.f 79) [(.t 60), (.t 61), (.t 62), (.t 66)], none, 0, []⟩]))
  (.reg false [1, 2, 3, 6, 7] [⟨some 58, .mv (.t 7), none, 0, []⟩,
    ⟨some 59, .bin .add .num (.t 58) (.c (.int .i64 1)), none, 0, []⟩,
    ⟨some 7, .mv (.t 59), none, 0, []⟩]))
def burinlaw10_CompsRing_l2 : Cd := .seq (.seq (.reg false [1, 2, 3, 6, 53] [⟨some 52, .mv (.t 6), none, 0, []⟩,
    ⟨some 53, .bin .lss .num (.t 52) (.c (.int .i64 150)), none, 0, []⟩])
  (.cond (.t 53) (.skip)
  (.exit 4)))
  (.seq (.block 5 (.seq (.reg false [1, 2, 3, 6, 7] [⟨some 7, .mv (.c (.int .i64 0)), none, 0, []⟩])
  (.block 6 (.loop [1, 2, 3, 6, 7] burinlaw10_CompsRing_l3))))
  (.reg false [1, 2, 3, 6] [⟨some 54, .mv (.t 6), none, 0, []⟩,
    ⟨some 55, .bin .add .num (.t 54) (.c (.int .i64 1)), none, 0, []⟩,
    ⟨some 6, .mv (.t 55), none, 0, []⟩]))
def burinlaw10_CompsRing_l1 : Cd := .seq (.seq (.reg false [1, 2, 3, 8, 9, 73] [⟨some 72, .mv (.t 9), none, 0, []⟩,
    ⟨some 73, .bin .lss .num (.t 72) (.c (.int .i64 100)), none, 0, []⟩])
  (.cond (.t 73) (.skip)
  (.exit 10)))
  (.seq (.block 11 (.reg false [1, 2, 3, 8, 9] [⟨some 76, .load (some 3) (.t 3), none, 0, []⟩,
    ⟨some 77, .mv (.t 9), none, 0, []⟩,
    ⟨some 78, .mv (.t 8), none, 0, []⟩,
    ⟨some 79, .call (.f 79) [(.t 76), (.t 77), (.t 78), (.c (.int .i64 1))], none, 0, []⟩]))
  (.reg false [1, 2, 3, 8, 9] [⟨some 74, .mv (.t 9), none, 0, []⟩,
    ⟨some 75, .bin .add .num (.t 74) (.c (.int .i64 2)), none, 0, []⟩,
    ⟨some 9, .mv (.t 75), none, 0, []⟩]))
def burinlaw10_CompsRing_l0 : Cd := .seq (.seq (.reg false [1, 2, 3, 8, 69] [⟨some 68, .mv (.t 8), none, 0, []⟩,
    ⟨some 69, .bin .lss .num (.t 68) (.c (.int .i64 100)), none, 0, []⟩])
  (.cond (.t 69) (.skip)
  (.exit 8)))
  (.seq (.block 9 (.seq (.reg false [1, 2, 3, 8, 9] [⟨some 9, .mv (.c (.int .i64 0)), none, 0, []⟩])
  (.block 10 (.loop [1, 2, 3, 8, 9] burinlaw10_CompsRing_l1))))
  (.reg false [1, 2, 3, 8] [⟨some 70, .mv (.t 8), none, 0, []⟩,
    ⟨some 71, .bin .add .num (.t 70) (.c (.int .i64 2)), none, 0, []⟩,
    ⟨some 8, .mv (.t 71), none, 0, []⟩]))
/-- burin/burinlaw10.CompsRing -/
def burinlaw10_CompsRing : AFun := ⟨0, 145, true, [.t 0],
  .seq (.reg false [] [⟨some 0, .mv (.c (.bool false)), none, 0, []⟩])
  (.seq (.reg false [1] [⟨some 16, .call (.f 77) [(.c (.int .i64 200)), (.c (.int .i64 201))], none, 0, []⟩,
    ⟨some 1, .alloc [.int .i64 0, .int .i64 0, .sl none 0 0 0], none, 0, []⟩,
    ⟨none, .store 3 (.t 1) (.t 16), none, 0, []⟩])
  (.seq (.reg false [1, 2] [⟨some 17, .call (.f 77) [(.c (.int .i64 150)), (.c (.int .i64 150))], none, 0, []⟩,
    ⟨some 2, .alloc [.int .i64 0, .int .i64 0, .sl none 0 0 0], none, 0, []⟩,
    ⟨none, .store 3 (.t 2) (.t 17), none, 0, []⟩])
  (.seq (.reg false [1, 2, 3] [⟨some 18, .call (.f 77) [(.c (.int .i64 100)), (.c (.int .i64 100))], none, 0, []⟩,
    ⟨some 3, .alloc [.int .i64 0, .int .i64 0, .sl none 0 0 0], none, 0, []⟩,
    ⟨none, .store 3 (.t 3) (.t 18), none, 0, []⟩])
  (.seq (.seq (.reg false [1, 2, 3, 4] [⟨some 4, .mv (.c (.int .i64 0)), none, 0, []⟩])
  (.block 0 (.loop [1, 2, 3, 4] burinlaw10_CompsRing_l4)))
  (.seq (.seq (.reg false [1, 2, 3, 6] [⟨some 6, .mv (.c (.int .i64 0)), none, 0, []⟩])
  (.block 4 (.loop [1, 2, 3, 6] burinlaw10_CompsRing_l2)))
  (.seq (.seq (.reg false [1, 2, 3, 8] [⟨some 8, .mv (.c (.int .i64 0)), none, 0, []⟩])
  (.block 8 (.loop [1, 2, 3, 8] burinlaw10_CompsRing_l0)))
  (.seq (.reg false [1, 2, 3, 10, 11] [⟨some 81, .load (some 3) (.t 1), none, 0, []⟩,
    ⟨some 82, .call (.f 181) [(.t 81)], none, 0, []⟩,
    ⟨some 80, .mv (.t 82), none, 0, []⟩,
    ⟨some 83, .ext 0 (.t 80), none, 0, []⟩,
    ⟨some 84, .ext 1 (.t 80), none, 0, []⟩,
    ⟨some 10, .mv (.t 83), none, 0, []⟩,
    ⟨some 11, .mv (.t 84), none, 0, []⟩])
  (.seq (.reg false [1, 3, 10, 11, 12, 13] [⟨some 86, .load (some 3) (.t 2), none, 0, []⟩,
    ⟨some 87, .call (.f 181) [(.t 86)], none, 0, []⟩,
    ⟨some 85, .mv (.t 87), none, 0, []⟩,
    ⟨some 88, .ext 0 (.t 85), none, 0, []⟩,
    ⟨some 89, .ext 1 (.t 85), none, 0, []⟩,
    ⟨some 12, .mv (.t 88), none, 0, []⟩,
    ⟨some 13, .mv (.t 89), none, 0, []⟩])
  (.seq (.reg false [1, 10, 11, 12, 13, 14, 15] [⟨some 91, .load (some 3) (.t 3), none, 0, []⟩,
    ⟨some 92, .call (.f 181) [(.t 91)], none, 0, []⟩,
    ⟨some 90, .mv (.t 92), none, 0, []⟩,
    ⟨some 93, .ext 0 (.t 90), none, 0, []⟩,
    ⟨some 94, .ext 1 (.t 90), none, 0, []⟩,
    ⟨some 14, .mv (.t 93), none, 0, []⟩,
    ⟨some 15, .mv (.t 94), none, 0, []⟩])
  (.seq (.reg true [0] [⟨some 95, .mv (.t 11), none, 0, []⟩,
    ⟨some 96, .bin .eql .num (.t 95) (.c (.int .i64 0)), none, 1, []⟩,
    ⟨some 97, .mv (.t 96), none, 2, []⟩,
    ⟨some 98, .mv (.t 13), some (97, true), 3, []⟩,
    ⟨some 99, .bin .eql .num (.t 98) (.c (.int .i64 0)), some (97, true), 4, []⟩,
    ⟨some 100, .pick (.t 97) (.t 99) (.c (.bool false)), none, 5, []⟩,
    ⟨some 101, .mv (.t 100), none, 6, []⟩,
    ⟨some 102, .mv (.t 15), some (101, true), 7, []⟩,
    ⟨some 103, .bin .eql .num (.t 102) (.c (.int .i64 0)), some (101, true), 8, []⟩,
    ⟨some 104, .pick (.t 101) (.t 103) (.c (.bool false)), none, 9, []⟩,
    ⟨some 105, .mv (.t 104), none, 10, []⟩,
    ⟨some 106, .mv (.t 10), some (105, true), 11, []⟩,
    ⟨some 107, .len none (.t 106), some (105, true), 12, []⟩,
    ⟨some 108, .bin .eql .num (.t 107) (.c (.int .i64 1)), some (105, true), 13, []⟩,
    ⟨some 109, .pick (.t 105) (.t 108) (.c (.bool false)), none, 14, []⟩,
    ⟨some 110, .mv (.t 109), none, 15, []⟩,
    ⟨some 111, .mv (.t 12), some (110, true), 16, []⟩,
    ⟨some 112, .len none (.t 111), some (110, true), 17, []⟩,
    ⟨some 113, .bin .eql .num (.t 112) (.c (.int .i64 1)), some (110, true), 18, []⟩,
    ⟨some 114, .pick (.t 110) (.t 113) (.c (.bool false)), none, 19, []⟩,
    ⟨some 115, .mv (.t 114), none, 20, []⟩,
    ⟨some 116, .mv (.t 14), some (115, true), 21, []⟩,
    ⟨some 117, .len none (.t 116), some (115, true), 22, []⟩,
    ⟨some 118, .bin .eql .num (.t 117) (.c (.int .i64 2500)), some (115, true), 23, []⟩,
    ⟨some 119, .pick (.t 115) (.t 118) (.c (.bool false)), none, 24, []⟩,
    ⟨some 120, .mv (.t 119), none, 25, []⟩,
    ⟨some 121, .mv (.t 10), some (120, true), 26, []⟩,
    ⟨some 122, .iad none 5 (.t 121) (.c (.int .i64 0)), some (120, true), 27, []⟩,
    ⟨some 123, .fad 2 (.t 122), some (120, true), 28, []⟩,
    ⟨some 124, .load (some 3) (.t 123), some (120, true), 29, []⟩,
    ⟨some 125, .load (some 3) (.t 1), some (120, true), 30, []⟩,
    ⟨some 126, .call (.f 84) [(.t 124), (.t 125)], some (120, true), 31, []⟩,
    ⟨some 127, .pick (.t 120) (.t 126) (.c (.bool false)), none, 32, []⟩,
    ⟨some 128, .mv (.t 127), none, 33, []⟩,
    ⟨some 129, .mv (.t 14), some (128, true), 34, []⟩,
    ⟨some 130, .iad none 5 (.t 129) (.c (.int .i64 51)), some (128, true), 35, []⟩,
    ⟨some 131, .fad 0 (.t 130), some (128, true), 36, []⟩,
    ⟨some 132, .load none (.t 131), some (128, true), 37, []⟩,
    ⟨some 133, .bin .eql .num (.t 132) (.c (.int .i64 2)), some (128, true), 38, []⟩,
    ⟨some 134, .pick (.t 128) (.t 133) (.c (.bool false)), none, 39, []⟩,
    ⟨some 135, .mv (.t 134), none, 40, []⟩,
    ⟨some 136, .mv (.t 14), some (135, true), 41, []⟩,
    ⟨some 137, .iad none 5 (.t 136) (.c (.int .i64 51)), some (135, true), 42, []⟩,
    ⟨some 138, .fad 1 (.t 137), some (135, true), 43, []⟩,
    ⟨some 139, .load none (.t 138), some (135, true), 44, []⟩,
    ⟨some 140, .bin .eql .num (.t 139) (.c (.int .i64 2)), some (135, true), 45, []⟩,
    ⟨some 141, .pick (.t 135) (.t 140) (.c (.bool false)), none, 46, []⟩,
    ⟨some 142, .mv (.t 141), none, 47, []⟩,
    ⟨some 143, .call (.f 178) [], some (142, true), 48, []⟩,
    ⟨some 144, .pick (.t 142) (.t 143) (.c (.bool false)), none, 49, []⟩,
    ⟨some 0, .mv (.t 144), none, 50, []⟩])
  (.ret)))))))))))⟩

/-- A program that has them. -/
structure HasL10Ring (P : Prog) : Prop where
  h_burinlaw10_CompsRing : P 197 = some burinlaw10_CompsRing

end Go.Ab
