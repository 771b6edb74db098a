/- The texts of functions of the given program, for the abstract machine: written by wip/tools/gen.py out of Lean's print of the translation. Conditions: none; definitions alone. -/
import Derived.Test.YtfgecfbknpifjaaK1
set_option linter.all false
namespace Go.Ab
-- burinlaw10_CompsOf: 183, parameters ?; loops burinlaw10_CompsOf_l0 [0 ?, 3 ?]; burinlaw10_CompsOf_l1 [0 ?, 3 ?, 4 ?, 5 ?, 6 ?]; burinlaw10_CompsOf_l2 [0 ?, 3 ?, 4 ?, 5 ?, 6 ?, 8 ?, 10 ?, 11 ?]
-- burinkit_OverBitmaps: 179, parameters ?; loops burinkit_OverBitmaps_l0 [0 ?, 6 ?]; burinkit_OverBitmaps_l1 [0 ?, 6 ?, 7 ?]; burinkit_OverBitmaps_l2 [0 ?, 3 ?]; burinkit_OverBitmaps_l3 [0 ?, 3 ?, 4 ?]
-- burinref10_Of: 182, parameters b; loops burinref10_Of_l0 [1 b, 4 left, 5 l, 6 y]; burinref10_Of_l1 [1 b, 4 left, 5 l, 6 y, 7 x]
-- burinref10_piece: 189, parameters ? ? ?; loops burinref10_piece_l0 [6 ?, 7 ?, 11 ?, 14 ?, 15 ?]; burinref10_piece_l1 [6 ?, 7 ?, 11 ?, 12 ?, 13 ?]; burinref10_piece_l2 [3 ?, 6 ?, 7 ?, 8 ?]; burinref10_piece_l3 [3 ?, 6 ?, 7 ?, 8 ?, 9 ?]; burinref10_piece_l4 [3 ?, 6 ?, 7 ?, 8 ?, 9 ?, 10 ?]

def burinlaw10_CompsOf_l2 : Cd := .seq (.seq (.reg false [0, 3, 4, 5, 6, 8, 10, 11, 72] [⟨some 69, .mv (.t 11), none, 0, []⟩,
    ⟨some 70, .mv (.t 8), none, 0, []⟩,
    ⟨some 71, .len none (.t 70), none, 0, []⟩,
    ⟨some 72, .bin .lss .num (.t 69) (.t 71), none, 0, []⟩])
  (.cond (.t 72) (.skip)
  (.exit 4)))
  (.seq (.block 5 (.reg false [0, 3, 4, 5, 6, 8, 10, 11] [⟨some 75, .mv (.t 10), none, 0, []⟩,
    ⟨some 76, .mv (.t 8), none, 0, []⟩,
    ⟨some 77, .mv (.t 11), none, 0, []⟩,
    ⟨some 78, .iad none 5 (.t 76) (.t 77), none, 0, []⟩,
    ⟨some 79, .fad 2 (.t 78), none, 0, []⟩,
    ⟨some 80, .load (some 3) (.t 79), none, 0, []⟩,
    ⟨some 81, .bslice 3 [.int .i64 0, .int .i64 0, .sl none 0 0 0] 1 [(0, (.t 80))], none, 0, []⟩,
    ⟨some 82, .append 3 40 (.t 75) (.t 81), none, 0, []⟩,
    ⟨some 10, .mv (.t 82), none, 0, []⟩]))
  (.reg false [0, 3, 4, 5, 6, 8, 10, 11] [⟨some 73, .mv (.t 11), none, 0, []⟩,
    ⟨some 74, .bin .add .num (.t 73) (.c (.int .i64 1)), none, 0, []⟩,
    ⟨some 11, .mv (.t 74), none, 0, []⟩]))
def burinlaw10_CompsOf_l1 : Cd := .seq (.seq (.reg false [0, 3, 4, 5, 6, 38] [⟨some 37, .mv (.t 6), none, 0, []⟩,
    ⟨some 38, .bin .lss .num (.t 37) (.c (.int .i64 2)), none, 0, []⟩])
  (.cond (.t 38) (.skip)
  (.exit 2)))
  (.seq (.block 3 (.seq (.reg false [0, 3, 4, 5, 6, 7] [⟨some 41, .mv (.t 0), none, 0, []⟩,
    ⟨some 42, .mv (.t 3), none, 0, []⟩,
    ⟨some 43, .iad none 3 (.t 41) (.t 42), none, 0, []⟩,
    ⟨some 44, .load (some 3) (.t 43), none, 0, []⟩,
    ⟨some 45, .call (.f 95) [(.t 44)], none, 0, []⟩,
    ⟨some 7, .alloc [.int .i64 0, .int .i64 0, .sl none 0 0 0], none, 0, []⟩,
    ⟨none, .store 3 (.t 7) (.t 45), none, 0, []⟩])
  (.seq (.reg false [0, 3, 4, 5, 6, 7, 8, 9] [⟨some 47, .load (some 3) (.t 7), none, 0, []⟩,
    ⟨some 48, .call (.f 181) [(.t 47)], none, 0, []⟩,
    ⟨some 46, .mv (.t 48), none, 0, []⟩,
    ⟨some 49, .ext 0 (.t 46), none, 0, []⟩,
    ⟨some 50, .ext 1 (.t 46), none, 0, []⟩,
    ⟨some 8, .mv (.t 49), none, 0, []⟩,
    ⟨some 9, .mv (.t 50), none, 0, []⟩])
  (.seq (.seq (.reg true [0, 3, 4, 5, 6, 8, 68] [⟨some 51, .load (some 3) (.t 7), none, 0, []⟩,
    ⟨some 52, .mv (.t 0), none, 1, []⟩,
    ⟨some 53, .mv (.t 3), none, 2, []⟩,
    ⟨some 54, .iad none 3 (.t 52) (.t 53), none, 3, []⟩,
    ⟨some 55, .load (some 3) (.t 54), none, 4, []⟩,
    ⟨some 56, .call (.f 96) [(.t 51), (.t 55)], none, 5, []⟩,
    ⟨some 57, .un .not (.t 56), none, 6, []⟩,
    ⟨some 58, .mv (.t 57), none, 7, []⟩,
    ⟨some 59, .mv (.t 9), some (58, false), 8, []⟩,
    ⟨some 60, .mv (.t 5), some (58, false), 9, []⟩,
    ⟨some 61, .bin .neq .num (.t 59) (.t 60), some (58, false), 10, []⟩,
    ⟨some 62, .pick (.t 58) (.c (.bool true)) (.t 61), none, 11, []⟩,
    ⟨some 63, .mv (.t 62), none, 12, []⟩,
    ⟨some 64, .mv (.t 8), some (63, false), 13, []⟩,
    ⟨some 65, .mv (.t 4), some (63, false), 14, []⟩,
    ⟨some 66, .call (.f 180) [(.t 64), (.t 65)], some (63, false), 15, []⟩,
    ⟨some 67, .un .not (.t 66), some (63, false), 16, []⟩,
    ⟨some 68, .pick (.t 63) (.c (.bool true)) (.t 67), none, 17, []⟩])
  (.cond (.t 68) (.seq (.reg false [2] [⟨some 2, .mv (.c (.bool false)), none, 0, []⟩])
  (.ret))
  (.skip)))
  (.seq (.reg false [0, 3, 4, 5, 6, 8, 10] [⟨some 10, .mv (.c (.sl none 0 0 0)), none, 0, []⟩])
  (.seq (.seq (.reg false [0, 3, 4, 5, 6, 8, 10, 11] [⟨some 11, .mv (.c (.int .i64 0)), none, 0, []⟩])
  (.block 4 (.loop [0, 3, 4, 5, 6, 8, 10, 11] burinlaw10_CompsOf_l2)))
  (.seq (.reg false [0, 3, 4, 5, 6, 85] [⟨some 83, .mv (.t 10), none, 0, []⟩,
    ⟨some 84, .call (.f 179) [(.t 83)], none, 0, []⟩,
    ⟨some 85, .un .not (.t 84), none, 0, []⟩])
  (.cond (.t 85) (.seq (.reg false [2] [⟨some 2, .mv (.c (.bool false)), none, 0, []⟩])
  (.ret))
  (.skip)))))))))
  (.reg false [0, 3, 4, 5, 6] [⟨some 39, .mv (.t 6), none, 0, []⟩,
    ⟨some 40, .bin .add .num (.t 39) (.c (.int .i64 1)), none, 0, []⟩,
    ⟨some 6, .mv (.t 40), none, 0, []⟩]))
def burinlaw10_CompsOf_l0 : Cd := .seq (.seq (.reg false [0, 3, 19] [⟨some 12, .mv (.t 3), none, 0, []⟩,
    ⟨some 13, .mv (.t 0), none, 0, []⟩,
    ⟨some 14, .len none (.t 13), none, 0, []⟩,
    ⟨some 15, .bin .lss .num (.t 12) (.t 14), none, 0, []⟩,
    ⟨some 16, .mv (.t 15), none, 0, []⟩,
    ⟨some 17, .mv (.t 3), some (16, true), 0, []⟩,
    ⟨some 18, .bin .lss .num (.t 17) (.c (.int .i64 5)), some (16, true), 0, []⟩,
    ⟨some 19, .pick (.t 16) (.t 18) (.c (.bool false)), none, 0, []⟩])
  (.cond (.t 19) (.skip)
  (.exit 0)))
  (.seq (.block 1 (.seq (.seq (.reg false [0, 3, 28] [⟨some 22, .mv (.t 0), none, 0, []⟩,
    ⟨some 23, .mv (.t 3), none, 0, []⟩,
    ⟨some 24, .iad none 3 (.t 22) (.t 23), none, 0, []⟩,
    ⟨some 25, .fad 2 (.t 24), none, 0, []⟩,
    ⟨some 26, .load none (.t 25), none, 0, []⟩,
    ⟨some 27, .len none (.t 26), none, 0, []⟩,
    ⟨some 28, .bin .gtr .num (.t 27) (.c (.int .i64 312)), none, 0, []⟩])
  (.cond (.t 28) (.exit 1)
  (.skip)))
  (.seq (.reg false [0, 3, 4, 5] [⟨some 30, .mv (.t 0), none, 0, []⟩,
    ⟨some 31, .mv (.t 3), none, 0, []⟩,
    ⟨some 32, .iad none 3 (.t 30) (.t 31), none, 0, []⟩,
    ⟨some 33, .load (some 3) (.t 32), none, 0, []⟩,
    ⟨some 34, .call (.f 182) [(.t 33)], none, 0, []⟩,
    ⟨some 29, .mv (.t 34), none, 0, []⟩,
    ⟨some 35, .ext 0 (.t 29), none, 0, []⟩,
    ⟨some 36, .ext 1 (.t 29), none, 0, []⟩,
    ⟨some 4, .mv (.t 35), none, 0, []⟩,
    ⟨some 5, .mv (.t 36), none, 0, []⟩])
  (.seq (.reg false [0, 3, 4, 5, 6] [⟨some 6, .mv (.c (.int .i64 0)), none, 0, []⟩])
  (.block 2 (.loop [0, 3, 4, 5, 6] burinlaw10_CompsOf_l1))))))
  (.reg false [0, 3] [⟨some 20, .mv (.t 3), none, 0, []⟩,
    ⟨some 21, .bin .add .num (.t 20) (.c (.int .i64 1)), none, 0, []⟩,
    ⟨some 3, .mv (.t 21), none, 0, []⟩]))
/-- burin/burinlaw10.CompsOf -/
def burinlaw10_CompsOf : AFun := ⟨1, 87, true, [.t 2],
  .seq (.reg false [0] [⟨some 2, .mv (.c (.bool false)), none, 0, []⟩])
  (.seq (.seq (.reg false [0, 3] [⟨some 3, .mv (.c (.int .i64 0)), none, 0, []⟩])
  (.block 0 (.loop [0, 3] burinlaw10_CompsOf_l0)))
  (.seq (.reg false [2] [⟨some 86, .call (.f 178) [], none, 0, []⟩,
    ⟨some 2, .mv (.t 86), none, 0, []⟩])
  (.ret)))⟩

def burinkit_OverBitmaps_l3 : Cd := .seq (.seq (.reg false [0, 3, 4, 21] [⟨some 14, .mv (.t 4), none, 0, []⟩,
    ⟨some 15, .mv (.t 0), none, 0, []⟩,
    ⟨some 16, .mv (.t 3), none, 0, []⟩,
    ⟨some 17, .iad none 3 (.t 15) (.t 16), none, 0, []⟩,
    ⟨some 18, .fad 2 (.t 17), none, 0, []⟩,
    ⟨some 19, .load none (.t 18), none, 0, []⟩,
    ⟨some 20, .len none (.t 19), none, 0, []⟩,
    ⟨some 21, .bin .lss .num (.t 14) (.t 20), none, 0, []⟩])
  (.cond (.t 21) (.skip)
  (.exit 2)))
  (.seq (.block 3 (.reg false [0, 3, 4] [⟨some 24, .mv (.t 0), none, 0, []⟩,
    ⟨some 25, .mv (.t 3), none, 0, []⟩,
    ⟨some 26, .iad none 3 (.t 24) (.t 25), none, 0, []⟩,
    ⟨some 27, .fad 2 (.t 26), none, 0, []⟩,
    ⟨some 28, .load none (.t 27), none, 0, []⟩,
    ⟨some 29, .mv (.t 4), none, 0, []⟩,
    ⟨some 30, .mv (.t 3), none, 0, []⟩,
    ⟨some 31, .bin .add .num (.c (.int .i64 1000)) (.t 30), none, 0, []⟩,
    ⟨some 32, .conv .u64 (.t 31), none, 0, []⟩,
    ⟨some 33, .iad none 1 (.t 28) (.t 29), none, 0, []⟩,
    ⟨none, .store 1 (.t 33) (.t 32), none, 0, []⟩]))
  (.reg false [0, 3, 4] [⟨some 22, .mv (.t 4), none, 0, []⟩,
    ⟨some 23, .bin .add .num (.t 22) (.c (.int .i64 1)), none, 0, []⟩,
    ⟨some 4, .mv (.t 23), none, 0, []⟩]))
def burinkit_OverBitmaps_l2 : Cd := .seq (.seq (.reg false [0, 3, 11] [⟨some 8, .mv (.t 3), none, 0, []⟩,
    ⟨some 9, .mv (.t 0), none, 0, []⟩,
    ⟨some 10, .len none (.t 9), none, 0, []⟩,
    ⟨some 11, .bin .lss .num (.t 8) (.t 10), none, 0, []⟩])
  (.cond (.t 11) (.skip)
  (.exit 0)))
  (.seq (.block 1 (.seq (.seq (.reg false [0, 3, 4] [⟨some 4, .mv (.c (.int .i64 0)), none, 0, []⟩])
  (.block 2 (.loop [0, 3, 4] burinkit_OverBitmaps_l3)))
  (.seq (.reg false [0, 3, 5] [⟨some 34, .mv (.t 0), none, 0, []⟩,
    ⟨some 35, .mv (.t 3), none, 0, []⟩,
    ⟨some 36, .iad none 3 (.t 34) (.t 35), none, 0, []⟩,
    ⟨some 37, .fad 2 (.t 36), none, 0, []⟩,
    ⟨some 38, .load none (.t 37), none, 0, []⟩,
    ⟨some 39, .bslice 1 [.int .u64 0] 1 [(0, (.c (.int .u64 7)))], none, 0, []⟩,
    ⟨some 40, .mp (.app2 1 8 (.t 38) (.t 39)), none, 0, []⟩,
    ⟨some 5, .mv (.t 40), none, 0, []⟩])
  (.reg false [0, 3] [⟨some 41, .mv (.t 5), none, 0, []⟩,
    ⟨some 42, .mv (.t 0), none, 0, []⟩,
    ⟨some 43, .mv (.t 3), none, 0, []⟩,
    ⟨some 44, .iad none 3 (.t 42) (.t 43), none, 0, []⟩,
    ⟨some 45, .fad 2 (.t 44), none, 0, []⟩,
    ⟨some 46, .load none (.t 45), none, 0, []⟩,
    ⟨some 47, .len none (.t 46), none, 0, []⟩,
    ⟨some 48, .mv (.t 3), none, 0, []⟩,
    ⟨some 49, .bin .add .num (.c (.int .i64 1000)) (.t 48), none, 0, []⟩,
    ⟨some 50, .conv .u64 (.t 49), none, 0, []⟩,
    ⟨some 51, .iad none 1 (.t 41) (.t 47), none, 0, []⟩,
    ⟨none, .store 1 (.t 51) (.t 50), none, 0, []⟩]))))
  (.reg false [0, 3] [⟨some 12, .mv (.t 3), none, 0, []⟩,
    ⟨some 13, .bin .add .num (.t 12) (.c (.int .i64 1)), none, 0, []⟩,
    ⟨some 3, .mv (.t 13), none, 0, []⟩]))
def burinkit_OverBitmaps_l1 : Cd := .seq (.seq (.reg false [0, 6, 7, 65] [⟨some 58, .mv (.t 7), none, 0, []⟩,
    ⟨some 59, .mv (.t 0), none, 0, []⟩,
    ⟨some 60, .mv (.t 6), none, 0, []⟩,
    ⟨some 61, .iad none 3 (.t 59) (.t 60), none, 0, []⟩,
    ⟨some 62, .fad 2 (.t 61), none, 0, []⟩,
    ⟨some 63, .load none (.t 62), none, 0, []⟩,
    ⟨some 64, .len none (.t 63), none, 0, []⟩,
    ⟨some 65, .bin .lss .num (.t 58) (.t 64), none, 0, []⟩])
  (.cond (.t 65) (.skip)
  (.exit 6)))
  (.seq (.block 7 (.seq (.reg false [0, 6, 7, 79] [⟨some 68, .mv (.t 0), none, 0, []⟩,
    ⟨some 69, .mv (.t 6), none, 0, []⟩,
    ⟨some 70, .iad none 3 (.t 68) (.t 69), none, 0, []⟩,
    ⟨some 71, .fad 2 (.t 70), none, 0, []⟩,
    ⟨some 72, .load none (.t 71), none, 0, []⟩,
    ⟨some 73, .mv (.t 7), none, 0, []⟩,
    ⟨some 74, .iad none 1 (.t 72) (.t 73), none, 0, []⟩,
    ⟨some 75, .load none (.t 74), none, 0, []⟩,
    ⟨some 76, .mv (.t 6), none, 0, []⟩,
    ⟨some 77, .bin .add .num (.c (.int .i64 1000)) (.t 76), none, 0, []⟩,
    ⟨some 78, .conv .u64 (.t 77), none, 0, []⟩,
    ⟨some 79, .bin .neq .num (.t 75) (.t 78), none, 0, []⟩])
  (.cond (.t 79) (.seq (.reg false [2] [⟨some 2, .mv (.c (.bool false)), none, 0, []⟩])
  (.ret))
  (.skip))))
  (.reg false [0, 6, 7] [⟨some 66, .mv (.t 7), none, 0, []⟩,
    ⟨some 67, .bin .add .num (.t 66) (.c (.int .i64 1)), none, 0, []⟩,
    ⟨some 7, .mv (.t 67), none, 0, []⟩]))
def burinkit_OverBitmaps_l0 : Cd := .seq (.seq (.reg false [0, 6, 55] [⟨some 52, .mv (.t 6), none, 0, []⟩,
    ⟨some 53, .mv (.t 0), none, 0, []⟩,
    ⟨some 54, .len none (.t 53), none, 0, []⟩,
    ⟨some 55, .bin .lss .num (.t 52) (.t 54), none, 0, []⟩])
  (.cond (.t 55) (.skip)
  (.exit 4)))
  (.seq (.block 5 (.seq (.reg false [0, 6, 7] [⟨some 7, .mv (.c (.int .i64 0)), none, 0, []⟩])
  (.block 6 (.loop [0, 6, 7] burinkit_OverBitmaps_l1))))
  (.reg false [0, 6] [⟨some 56, .mv (.t 6), none, 0, []⟩,
    ⟨some 57, .bin .add .num (.t 56) (.c (.int .i64 1)), none, 0, []⟩,
    ⟨some 6, .mv (.t 57), none, 0, []⟩]))
/-- burin/burinkit.OverBitmaps -/
def burinkit_OverBitmaps : AFun := ⟨1, 80, true, [.t 2],
  .seq (.reg false [0] [⟨some 2, .mv (.c (.bool false)), none, 0, []⟩])
  (.seq (.seq (.reg false [0, 3] [⟨some 3, .mv (.c (.int .i64 0)), none, 0, []⟩])
  (.block 0 (.loop [0, 3] burinkit_OverBitmaps_l2)))
  (.seq (.seq (.reg false [0, 6] [⟨some 6, .mv (.c (.int .i64 0)), none, 0, []⟩])
  (.block 4 (.loop [0, 6] burinkit_OverBitmaps_l0)))
  (.seq (.reg false [2] [⟨some 2, .mv (.c (.bool true)), none, 0, []⟩])
  (.ret))))⟩

def burinref10_Of_l1 : Cd := .seq (.seq (.reg false [1, 4, 5, 6, 7, 22] [⟨some 19, .mv (.t 7), none, 0, []⟩,
    ⟨some 20, .fad 0 (.t 1), none, 0, []⟩,
    ⟨some 21, .load none (.t 20), none, 0, []⟩,
    ⟨some 22, .bin .lss .num (.t 19) (.t 21), none, 0, []⟩])
  (.cond (.t 22) (.skip)
  (.exit 2)))
  (.seq (.block 3 (.seq (.reg false [1, 4, 5, 6, 7, 29] [⟨some 25, .load (some 3) (.t 4), none, 0, []⟩,
    ⟨some 26, .mv (.t 7), none, 0, []⟩,
    ⟨some 27, .mv (.t 6), none, 0, []⟩,
    ⟨some 28, .call (.f 78) [(.t 25), (.t 26), (.t 27)], none, 0, []⟩,
    ⟨some 29, .bin .eql .num (.t 28) (.c (.int .i64 1)), none, 0, []⟩])
  (.cond (.t 29) (.reg false [1, 4, 5, 6, 7] [⟨some 30, .mv (.t 5), none, 0, []⟩,
    ⟨some 31, .load (some 3) (.t 4), none, 0, []⟩,
    ⟨some 32, .mv (.t 7), none, 0, []⟩,
    ⟨some 33, .mv (.t 6), none, 0, []⟩,
    ⟨some 34, .call (.f 189) [(.t 31), (.t 32), (.t 33)], none, 0, []⟩,
    ⟨some 35, .bslice 5 [.int .i64 0, .int .i64 0, .int .i64 0, .int .i64 0, .sl none 0 0 0] 1 [(0, (.t 34))], none, 0, []⟩,
    ⟨some 36, .append 5 56 (.t 30) (.t 35), none, 0, []⟩,
    ⟨some 5, .mv (.t 36), none, 0, []⟩])
  (.skip))))
  (.reg false [1, 4, 5, 6, 7] [⟨some 23, .mv (.t 7), none, 0, []⟩,
    ⟨some 24, .bin .add .num (.t 23) (.c (.int .i64 1)), none, 0, []⟩,
    ⟨some 7, .mv (.t 24), none, 0, []⟩]))
def burinref10_Of_l0 : Cd := .seq (.seq (.reg false [1, 4, 5, 6, 16] [⟨some 13, .mv (.t 6), none, 0, []⟩,
    ⟨some 14, .fad 1 (.t 1), none, 0, []⟩,
    ⟨some 15, .load none (.t 14), none, 0, []⟩,
    ⟨some 16, .bin .lss .num (.t 13) (.t 15), none, 0, []⟩])
  (.cond (.t 16) (.skip)
  (.exit 0)))
  (.seq (.block 1 (.seq (.reg false [1, 4, 5, 6, 7] [⟨some 7, .mv (.c (.int .i64 0)), none, 0, []⟩])
  (.block 2 (.loop [1, 4, 5, 6, 7] burinref10_Of_l1))))
  (.reg false [1, 4, 5, 6] [⟨some 17, .mv (.t 6), none, 0, []⟩,
    ⟨some 18, .bin .add .num (.t 17) (.c (.int .i64 1)), none, 0, []⟩,
    ⟨some 6, .mv (.t 18), none, 0, []⟩]))
/-- burin/burinref10.Of -/
def burinref10_Of : AFun := ⟨1, 38, true, [.t 2, .t 3],
  .seq (.reg false [1] [⟨some 1, .box 3 (.t 0), none, 0, []⟩,
    ⟨some 2, .mv (.c (.sl none 0 0 0)), none, 0, []⟩,
    ⟨some 3, .mv (.c (.int .i64 0)), none, 0, []⟩])
  (.seq (.seq (.reg false [1, 10] [⟨some 8, .load (some 3) (.t 1), none, 0, []⟩,
    ⟨some 9, .call (.f 76) [(.t 8)], none, 0, []⟩,
    ⟨some 10, .un .not (.t 9), none, 0, []⟩])
  (.cond (.t 10) (.seq (.reg false [2, 3] [⟨some 2, .mv (.c (.sl none 0 0 0)), none, 0, []⟩,
    ⟨some 3, .mv (.c (.int .i64 90)), none, 0, []⟩])
  (.ret))
  (.skip)))
  (.seq (.reg false [1, 4] [⟨some 11, .load (some 3) (.t 1), none, 0, []⟩,
    ⟨some 12, .call (.f 82) [(.t 11)], none, 0, []⟩,
    ⟨some 4, .alloc [.int .i64 0, .int .i64 0, .sl none 0 0 0], none, 0, []⟩,
    ⟨none, .store 3 (.t 4) (.t 12), none, 0, []⟩])
  (.seq (.reg false [1, 4, 5] [⟨some 5, .mv (.c (.sl none 0 0 0)), none, 0, []⟩])
  (.seq (.seq (.reg false [1, 4, 5, 6] [⟨some 6, .mv (.c (.int .i64 0)), none, 0, []⟩])
  (.block 0 (.loop [1, 4, 5, 6] burinref10_Of_l0)))
  (.seq (.reg false [2, 3] [⟨some 37, .mv (.t 5), none, 0, []⟩,
    ⟨some 2, .mv (.t 37), none, 0, []⟩,
    ⟨some 3, .mv (.c (.int .i64 0)), none, 0, []⟩])
  (.ret))))))⟩

def burinref10_piece_l4 : Cd := .seq (.seq (.reg false [3, 6, 7, 8, 9, 10, 35] [⟨some 34, .mv (.t 10), none, 0, []⟩,
    ⟨some 35, .bin .leq .num (.t 34) (.c (.int .i64 1)), none, 0, []⟩])
  (.cond (.t 35) (.skip)
  (.exit 4)))
  (.seq (.block 5 (.seq (.reg true [3, 6, 7, 8, 9, 10, 54] [⟨some 38, .load (some 3) (.t 3), none, 0, []⟩,
    ⟨some 39, .mv (.t 7), none, 1, []⟩,
    ⟨some 40, .mv (.t 8), none, 2, []⟩,
    ⟨some 41, .iad none 2 (.t 39) (.t 40), none, 3, []⟩,
    ⟨some 42, .fad 0 (.t 41), none, 4, []⟩,
    ⟨some 43, .load none (.t 42), none, 5, []⟩,
    ⟨some 44, .mv (.t 10), none, 6, []⟩,
    ⟨some 45, .bin .add .num (.t 43) (.t 44), none, 7, []⟩,
    ⟨some 46, .mv (.t 7), none, 8, []⟩,
    ⟨some 47, .mv (.t 8), none, 9, []⟩,
    ⟨some 48, .iad none 2 (.t 46) (.t 47), none, 10, []⟩,
    ⟨some 49, .fad 1 (.t 48), none, 11, []⟩,
    ⟨some 50, .load none (.t 49), none, 12, []⟩,
    ⟨some 51, .mv (.t 9), none, 13, []⟩,
    ⟨some 52, .bin .add .num (.t 50) (.t 51), none, 14, []⟩,
    ⟨some 53, .call (.f 78) [(.t 38), (.t 45), (.t 52)], none, 15, []⟩,
    ⟨some 54, .bin .eql .num (.t 53) (.c (.int .i64 1)), none, 16, []⟩])
  (.cond (.t 54) (.seq (.reg true [3, 6, 7, 8, 9, 10] [⟨some 55, .load (some 3) (.t 3), none, 0, []⟩,
    ⟨some 56, .mv (.t 7), none, 1, []⟩,
    ⟨some 57, .mv (.t 8), none, 2, []⟩,
    ⟨some 58, .iad none 2 (.t 56) (.t 57), none, 3, []⟩,
    ⟨some 59, .fad 0 (.t 58), none, 4, []⟩,
    ⟨some 60, .load none (.t 59), none, 5, []⟩,
    ⟨some 61, .mv (.t 10), none, 6, []⟩,
    ⟨some 62, .bin .add .num (.t 60) (.t 61), none, 7, []⟩,
    ⟨some 63, .mv (.t 7), none, 8, []⟩,
    ⟨some 64, .mv (.t 8), none, 9, []⟩,
    ⟨some 65, .iad none 2 (.t 63) (.t 64), none, 10, []⟩,
    ⟨some 66, .fad 1 (.t 65), none, 11, []⟩,
    ⟨some 67, .load none (.t 66), none, 12, []⟩,
    ⟨some 68, .mv (.t 9), none, 13, []⟩,
    ⟨some 69, .bin .add .num (.t 67) (.t 68), none, 14, []⟩,
    ⟨some 70, .call (.f 79) [(.t 55), (.t 62), (.t 69), (.c (.int .i64 0))], none, 15, []⟩])
  (.reg true [3, 6, 7, 8, 9, 10] [⟨some 71, .mv (.t 7), none, 0, []⟩,
    ⟨some 72, .mv (.t 7), none, 1, []⟩,
    ⟨some 73, .mv (.t 8), none, 2, []⟩,
    ⟨some 74, .iad none 2 (.t 72) (.t 73), none, 3, []⟩,
    ⟨some 75, .fad 0 (.t 74), none, 4, []⟩,
    ⟨some 76, .load none (.t 75), none, 5, []⟩,
    ⟨some 77, .mv (.t 10), none, 6, []⟩,
    ⟨some 78, .bin .add .num (.t 76) (.t 77), none, 7, []⟩,
    ⟨some 79, .mv (.t 7), none, 8, []⟩,
    ⟨some 80, .mv (.t 8), none, 9, []⟩,
    ⟨some 81, .iad none 2 (.t 79) (.t 80), none, 10, []⟩,
    ⟨some 82, .fad 1 (.t 81), none, 11, []⟩,
    ⟨some 83, .load none (.t 82), none, 12, []⟩,
    ⟨some 84, .mv (.t 9), none, 13, []⟩,
    ⟨some 85, .bin .add .num (.t 83) (.t 84), none, 14, []⟩,
    ⟨some 86, .build [.int .i64 0, .int .i64 0] [(0, 1, (.t 78)), (1, 1, (.t 85))], none, 15, []⟩,
    ⟨some 87, .bslice 2 [.int .i64 0, .int .i64 0] 1 [(0, (.t 86))], none, 16, []⟩,
    ⟨some 88, .append 2 16 (.t 71) (.t 87), none, 17, []⟩,
    ⟨some 7, .mv (.t 88), none, 18, []⟩]))
  (.skip))))
  (.reg false [3, 6, 7, 8, 9, 10] [⟨some 36, .mv (.t 10), none, 0, []⟩,
    ⟨some 37, .bin .add .num (.t 36) (.c (.int .i64 1)), none, 0, []⟩,
    ⟨some 10, .mv (.t 37), none, 0, []⟩]))
def burinref10_piece_l3 : Cd := .seq (.seq (.reg false [3, 6, 7, 8, 9, 31] [⟨some 30, .mv (.t 9), none, 0, []⟩,
    ⟨some 31, .bin .leq .num (.t 30) (.c (.int .i64 1)), none, 0, []⟩])
  (.cond (.t 31) (.skip)
  (.exit 2)))
  (.seq (.block 3 (.seq (.reg false [3, 6, 7, 8, 9, 10] [⟨some 10, .mv (.c (.int .i64 (-1))), none, 0, []⟩])
  (.block 4 (.loop [3, 6, 7, 8, 9, 10] burinref10_piece_l4))))
  (.reg false [3, 6, 7, 8, 9] [⟨some 32, .mv (.t 9), none, 0, []⟩,
    ⟨some 33, .bin .add .num (.t 32) (.c (.int .i64 1)), none, 0, []⟩,
    ⟨some 9, .mv (.t 33), none, 0, []⟩]))
def burinref10_piece_l2 : Cd := .seq (.seq (.reg false [3, 6, 7, 8, 27] [⟨some 24, .mv (.t 8), none, 0, []⟩,
    ⟨some 25, .mv (.t 7), none, 0, []⟩,
    ⟨some 26, .len none (.t 25), none, 0, []⟩,
    ⟨some 27, .bin .lss .num (.t 24) (.t 26), none, 0, []⟩])
  (.cond (.t 27) (.skip)
  (.exit 0)))
  (.seq (.block 1 (.seq (.reg false [3, 6, 7, 8, 9] [⟨some 9, .mv (.c (.int .i64 (-1))), none, 0, []⟩])
  (.block 2 (.loop [3, 6, 7, 8, 9] burinref10_piece_l3))))
  (.reg false [3, 6, 7, 8] [⟨some 28, .mv (.t 8), none, 0, []⟩,
    ⟨some 29, .bin .add .num (.t 28) (.c (.int .i64 1)), none, 0, []⟩,
    ⟨some 8, .mv (.t 29), none, 0, []⟩]))
def burinref10_piece_l1 : Cd := .seq (.seq (.reg false [6, 7, 11, 12, 13, 98] [⟨some 95, .mv (.t 13), none, 0, []⟩,
    ⟨some 96, .mv (.t 7), none, 0, []⟩,
    ⟨some 97, .len none (.t 96), none, 0, []⟩,
    ⟨some 98, .bin .lss .num (.t 95) (.t 97), none, 0, []⟩])
  (.cond (.t 98) (.skip)
  (.exit 6)))
  (.seq (.block 7 (.seq (.seq (.reg true [6, 7, 11, 12, 13, 108] [⟨some 101, .mv (.t 7), none, 0, []⟩,
    ⟨some 102, .mv (.t 13), none, 1, []⟩,
    ⟨some 103, .iad none 2 (.t 101) (.t 102), none, 2, []⟩,
    ⟨some 104, .fad 0 (.t 103), none, 3, []⟩,
    ⟨some 105, .load none (.t 104), none, 4, []⟩,
    ⟨some 106, .fad 0 (.t 11), none, 5, []⟩,
    ⟨some 107, .load none (.t 106), none, 6, []⟩,
    ⟨some 108, .bin .lss .num (.t 105) (.t 107), none, 7, []⟩])
  (.cond (.t 108) (.reg false [6, 7, 11, 12, 13] [⟨some 109, .mv (.t 7), none, 0, []⟩,
    ⟨some 110, .mv (.t 13), none, 0, []⟩,
    ⟨some 111, .iad none 2 (.t 109) (.t 110), none, 0, []⟩,
    ⟨some 112, .fad 0 (.t 111), none, 0, []⟩,
    ⟨some 113, .load none (.t 112), none, 0, []⟩,
    ⟨some 114, .fad 0 (.t 11), none, 0, []⟩,
    ⟨none, .store 1 (.t 114) (.t 113), none, 0, []⟩])
  (.skip)))
  (.seq (.seq (.reg true [6, 7, 11, 12, 13, 122] [⟨some 115, .mv (.t 7), none, 0, []⟩,
    ⟨some 116, .mv (.t 13), none, 1, []⟩,
    ⟨some 117, .iad none 2 (.t 115) (.t 116), none, 2, []⟩,
    ⟨some 118, .fad 0 (.t 117), none, 3, []⟩,
    ⟨some 119, .load none (.t 118), none, 4, []⟩,
    ⟨some 120, .fad 0 (.t 12), none, 5, []⟩,
    ⟨some 121, .load none (.t 120), none, 6, []⟩,
    ⟨some 122, .bin .gtr .num (.t 119) (.t 121), none, 7, []⟩])
  (.cond (.t 122) (.reg false [6, 7, 11, 12, 13] [⟨some 123, .mv (.t 7), none, 0, []⟩,
    ⟨some 124, .mv (.t 13), none, 0, []⟩,
    ⟨some 125, .iad none 2 (.t 123) (.t 124), none, 0, []⟩,
    ⟨some 126, .fad 0 (.t 125), none, 0, []⟩,
    ⟨some 127, .load none (.t 126), none, 0, []⟩,
    ⟨some 128, .fad 0 (.t 12), none, 0, []⟩,
    ⟨none, .store 1 (.t 128) (.t 127), none, 0, []⟩])
  (.skip)))
  (.seq (.reg true [6, 7, 11, 12, 13, 136] [⟨some 129, .mv (.t 7), none, 0, []⟩,
    ⟨some 130, .mv (.t 13), none, 1, []⟩,
    ⟨some 131, .iad none 2 (.t 129) (.t 130), none, 2, []⟩,
    ⟨some 132, .fad 1 (.t 131), none, 3, []⟩,
    ⟨some 133, .load none (.t 132), none, 4, []⟩,
    ⟨some 134, .fad 1 (.t 12), none, 5, []⟩,
    ⟨some 135, .load none (.t 134), none, 6, []⟩,
    ⟨some 136, .bin .gtr .num (.t 133) (.t 135), none, 7, []⟩])
  (.cond (.t 136) (.reg false [6, 7, 11, 12, 13] [⟨some 137, .mv (.t 7), none, 0, []⟩,
    ⟨some 138, .mv (.t 13), none, 0, []⟩,
    ⟨some 139, .iad none 2 (.t 137) (.t 138), none, 0, []⟩,
    ⟨some 140, .fad 1 (.t 139), none, 0, []⟩,
    ⟨some 141, .load none (.t 140), none, 0, []⟩,
    ⟨some 142, .fad 1 (.t 12), none, 0, []⟩,
    ⟨none, .store 1 (.t 142) (.t 141), none, 0, []⟩])
  (.skip))))))
  (.reg false [6, 7, 11, 12, 13] [⟨some 99, .mv (.t 13), none, 0, []⟩,
    ⟨some 100, .bin .add .num (.t 99) (.c (.int .i64 1)), none, 0, []⟩,
    ⟨some 13, .mv (.t 100), none, 0, []⟩]))
def burinref10_piece_l0 : Cd := .seq (.seq (.reg false [6, 7, 11, 14, 15, 164] [⟨some 161, .mv (.t 15), none, 0, []⟩,
    ⟨some 162, .mv (.t 7), none, 0, []⟩,
    ⟨some 163, .len none (.t 162), none, 0, []⟩,
    ⟨some 164, .bin .lss .num (.t 161) (.t 163), none, 0, []⟩])
  (.cond (.t 164) (.skip)
  (.exit 8)))
  (.seq (.block 9 (.reg true [6, 7, 11, 14, 15] [⟨some 167, .fad 2 (.t 14), none, 0, []⟩,
    ⟨some 168, .load (some 3) (.t 167), none, 1, []⟩,
    ⟨some 169, .mv (.t 7), none, 2, []⟩,
    ⟨some 170, .mv (.t 15), none, 3, []⟩,
    ⟨some 171, .iad none 2 (.t 169) (.t 170), none, 4, []⟩,
    ⟨some 172, .fad 0 (.t 171), none, 5, []⟩,
    ⟨some 173, .load none (.t 172), none, 6, []⟩,
    ⟨some 174, .fad 0 (.t 11), none, 7, []⟩,
    ⟨some 175, .load none (.t 174), none, 8, []⟩,
    ⟨some 176, .bin .sub .num (.t 173) (.t 175), none, 9, []⟩,
    ⟨some 177, .mv (.t 7), none, 10, []⟩,
    ⟨some 178, .mv (.t 15), none, 11, []⟩,
    ⟨some 179, .iad none 2 (.t 177) (.t 178), none, 12, []⟩,
    ⟨some 180, .fad 1 (.t 179), none, 13, []⟩,
    ⟨some 181, .load none (.t 180), none, 14, []⟩,
    ⟨some 182, .fad 1 (.t 11), none, 15, []⟩,
    ⟨some 183, .load none (.t 182), none, 16, []⟩,
    ⟨some 184, .bin .sub .num (.t 181) (.t 183), none, 17, []⟩,
    ⟨some 185, .call (.f 79) [(.t 168), (.t 176), (.t 184), (.c (.int .i64 1))], none, 18, []⟩]))
  (.reg false [6, 7, 11, 14, 15] [⟨some 165, .mv (.t 15), none, 0, []⟩,
    ⟨some 166, .bin .add .num (.t 165) (.c (.int .i64 1)), none, 0, []⟩,
    ⟨some 15, .mv (.t 166), none, 0, []⟩]))
/-- burin/burinref10.piece -/
def burinref10_piece : AFun := ⟨3, 187, true, [.cell 6 (some 5)],
  .seq (.reg false [1, 2, 3, 6] [⟨some 3, .box 3 (.t 0), none, 0, []⟩,
    ⟨some 6, .alloc [.int .i64 0, .int .i64 0, .int .i64 0, .int .i64 0, .sl none 0 0 0], none, 0, []⟩])
  (.seq (.reg false [1, 2, 3, 6, 7] [⟨some 16, .mv (.t 1), none, 0, []⟩,
    ⟨some 17, .mv (.t 2), none, 0, []⟩,
    ⟨some 18, .build [.int .i64 0, .int .i64 0] [(0, 1, (.t 16)), (1, 1, (.t 17))], none, 0, []⟩,
    ⟨some 19, .bslice 2 [.int .i64 0, .int .i64 0] 1 [(0, (.t 18))], none, 0, []⟩,
    ⟨some 7, .mv (.t 19), none, 0, []⟩])
  (.seq (.reg false [3, 6, 7] [⟨some 20, .load (some 3) (.t 3), none, 0, []⟩,
    ⟨some 21, .mv (.t 1), none, 0, []⟩,
    ⟨some 22, .mv (.t 2), none, 0, []⟩,
    ⟨some 23, .call (.f 79) [(.t 20), (.t 21), (.t 22), (.c (.int .i64 0))], none, 0, []⟩])
  (.seq (.seq (.reg false [3, 6, 7, 8] [⟨some 8, .mv (.c (.int .i64 0)), none, 0, []⟩])
  (.block 0 (.loop [3, 6, 7, 8] burinref10_piece_l2)))
  (.seq (.reg false [6, 7, 11] [⟨some 89, .mv (.t 7), none, 0, []⟩,
    ⟨some 90, .iad none 2 (.t 89) (.c (.int .i64 0)), none, 0, []⟩,
    ⟨some 91, .load (some 2) (.t 90), none, 0, []⟩,
    ⟨some 11, .alloc [.int .i64 0, .int .i64 0], none, 0, []⟩,
    ⟨none, .store 2 (.t 11) (.t 91), none, 0, []⟩])
  (.seq (.reg false [6, 7, 11, 12] [⟨some 92, .mv (.t 7), none, 0, []⟩,
    ⟨some 93, .iad none 2 (.t 92) (.c (.int .i64 0)), none, 0, []⟩,
    ⟨some 94, .load (some 2) (.t 93), none, 0, []⟩,
    ⟨some 12, .alloc [.int .i64 0, .int .i64 0], none, 0, []⟩,
    ⟨none, .store 2 (.t 12) (.t 94), none, 0, []⟩])
  (.seq (.seq (.reg false [6, 7, 11, 12, 13] [⟨some 13, .mv (.c (.int .i64 1)), none, 0, []⟩])
  (.block 6 (.loop [6, 7, 11, 12, 13] burinref10_piece_l1)))
  (.seq (.reg true [6, 7, 11, 14] [⟨some 143, .fad 0 (.t 11), none, 0, []⟩,
    ⟨some 144, .load none (.t 143), none, 1, []⟩,
    ⟨some 145, .fad 1 (.t 11), none, 2, []⟩,
    ⟨some 146, .load none (.t 145), none, 3, []⟩,
    ⟨some 147, .fad 0 (.t 12), none, 4, []⟩,
    ⟨some 148, .load none (.t 147), none, 5, []⟩,
    ⟨some 149, .fad 0 (.t 11), none, 6, []⟩,
    ⟨some 150, .load none (.t 149), none, 7, []⟩,
    ⟨some 151, .bin .sub .num (.t 148) (.t 150), none, 8, []⟩,
    ⟨some 152, .bin .add .num (.t 151) (.c (.int .i64 1)), none, 9, []⟩,
    ⟨some 153, .fad 1 (.t 12), none, 10, []⟩,
    ⟨some 154, .load none (.t 153), none, 11, []⟩,
    ⟨some 155, .fad 1 (.t 11), none, 12, []⟩,
    ⟨some 156, .load none (.t 155), none, 13, []⟩,
    ⟨some 157, .bin .sub .num (.t 154) (.t 156), none, 14, []⟩,
    ⟨some 158, .bin .add .num (.t 157) (.c (.int .i64 1)), none, 15, []⟩,
    ⟨some 14, .alloc [.int .i64 0, .int .i64 0, .int .i64 0, .int .i64 0, .sl none 0 0 0], none, 18, []⟩,
    ⟨some 159, .call (.f 77) [(.t 152), (.t 158)], none, 16, [1, 3, 18]⟩,
    ⟨some 160, .build [.int .i64 0, .int .i64 0, .int .i64 0, .int .i64 0, .sl none 0 0 0] [(0, 1, (.t 144)), (1, 1, (.t 146)), (2, 3, (.t 159))], none, 17, []⟩,
    ⟨none, .store 5 (.t 14) (.t 160), none, 19, []⟩])
  (.seq (.seq (.reg false [6, 7, 11, 14, 15] [⟨some 15, .mv (.c (.int .i64 0)), none, 0, []⟩])
  (.block 8 (.loop [6, 7, 11, 14, 15] burinref10_piece_l0)))
  (.seq (.reg false [6] [⟨some 186, .load (some 5) (.t 14), none, 0, []⟩,
    ⟨none, .store 5 (.t 6) (.t 186), none, 0, []⟩])
  (.ret))))))))))⟩

/-- A program that has them. -/
structure HasL10Of (P : Prog) : Prop where
  h_burinlaw10_CompsOf : P 183 = some burinlaw10_CompsOf
  h_burinkit_OverBitmaps : P 179 = some burinkit_OverBitmaps
  h_burinref10_Of : P 182 = some burinref10_Of
  h_burinref10_piece : P 189 = some burinref10_piece

end Go.Ab
