/- The texts of functions of the given program, for the abstract machine: written by wip/tools/gen.py out of Lean's print of the translation. Conditions: none; definitions alone. -/
import Derived.Test.YtdkgdneiilnppaaK1
set_option linter.all false
namespace Go.Ab
-- burinref9_Of: 118, parameters b; loops burinref9_Of_l0 [1 b, 4 rows, 5 y]; burinref9_Of_l1 [1 b, 4 rows, 5 y, 6 l, 7 x]
-- burinref9_Back: 119, parameters ? ?; loops burinref9_Back_l0 [0 ?, 4 ?, 9 ?, 10 ?]; burinref9_Back_l1 [0 ?, 4 ?, 9 ?, 10 ?, 11 ?]; burinref9_Back_l2 [0 ?, 4 ?, 9 ?, 10 ?, 11 ?, 12 ?]; burinref9_Back_l3 [0 ?, 1 ?, 4 ?, 6 ?]; burinref9_Back_l4 [0 ?, 1 ?, 4 ?, 6 ?, 7 ?]
-- burinref9_Touch: 120, parameters a b; loops 
-- burinref0_EqRuns: 121, parameters a b; loops burinref0_EqRuns_l0 [0 a, 1 b, 5 i]; burinref0_EqRuns_l1 [0 a, 1 b, 5 i, 6 k]
-- burinlaw9_wakes: 122, parameters ; loops 

def burinref9_Of_l1 : Cd := .seq (.seq (.reg false [1, 4, 5, 6, 7, 20] [⟨some 17, .mv (.t 7), none, 0, []⟩,
    ⟨some 18, .fad 0 (.t 1), none, 0, []⟩,
    ⟨some 19, .load none (.t 18), none, 0, []⟩,
    ⟨some 20, .bin .lss .num (.t 17) (.t 19), none, 0, []⟩])
  (.cond (.t 20) (.skip)
  (.exit 2)))
  (.seq (.block 3 (.seq (.seq (.reg false [1, 4, 5, 6, 7, 27] [⟨some 23, .load (some 3) (.t 1), none, 0, []⟩,
    ⟨some 24, .mv (.t 7), none, 0, []⟩,
    ⟨some 25, .mv (.t 5), none, 0, []⟩,
    ⟨some 26, .call (.f 78) [(.t 23), (.t 24), (.t 25)], none, 0, []⟩,
    ⟨some 27, .bin .eql .num (.t 26) (.c (.int .i64 0)), none, 0, []⟩])
  (.cond (.t 27) (.exit 3)
  (.skip)))
  (.seq (.reg false [1, 4, 5, 6, 7, 33] [⟨some 28, .load (some 3) (.t 1), none, 0, []⟩,
    ⟨some 29, .mv (.t 7), none, 0, []⟩,
    ⟨some 30, .bin .sub .num (.t 29) (.c (.int .i64 1)), none, 0, []⟩,
    ⟨some 31, .mv (.t 5), none, 0, []⟩,
    ⟨some 32, .call (.f 78) [(.t 28), (.t 30), (.t 31)], none, 0, []⟩,
    ⟨some 33, .bin .eql .num (.t 32) (.c (.int .i64 1)), none, 0, []⟩])
  (.cond (.t 33) (.reg false [1, 4, 5, 6, 7] [⟨some 34, .mv (.t 6), none, 0, []⟩,
    ⟨some 35, .mv (.t 6), none, 0, []⟩,
    ⟨some 36, .len none (.t 35), none, 0, []⟩,
    ⟨some 37, .bin .sub .num (.t 36) (.c (.int .i64 1)), none, 0, []⟩,
    ⟨some 38, .mv (.t 7), none, 0, []⟩,
    ⟨some 39, .bin .add .num (.t 38) (.c (.int .i64 1)), none, 0, []⟩,
    ⟨some 40, .iad none 2 (.t 34) (.t 37), none, 0, []⟩,
    ⟨some 41, .fad 1 (.t 40), none, 0, []⟩,
    ⟨none, .store 1 (.t 41) (.t 39), none, 0, []⟩])
  (.reg false [1, 4, 5, 6, 7] [⟨some 42, .mv (.t 6), none, 0, []⟩,
    ⟨some 43, .mv (.t 7), none, 0, []⟩,
    ⟨some 44, .mv (.t 7), none, 0, []⟩,
    ⟨some 45, .bin .add .num (.t 44) (.c (.int .i64 1)), none, 0, []⟩,
    ⟨some 46, .build [.int .i64 0, .int .i64 0] [(0, 1, (.t 43)), (1, 1, (.t 45))], none, 0, []⟩,
    ⟨some 47, .bslice 2 [.int .i64 0, .int .i64 0] 1 [(0, (.t 46))], none, 0, []⟩,
    ⟨some 48, .append 2 16 (.t 42) (.t 47), none, 0, []⟩,
    ⟨some 6, .mv (.t 48), none, 0, []⟩])))))
  (.reg false [1, 4, 5, 6, 7] [⟨some 21, .mv (.t 7), none, 0, []⟩,
    ⟨some 22, .bin .add .num (.t 21) (.c (.int .i64 1)), none, 0, []⟩,
    ⟨some 7, .mv (.t 22), none, 0, []⟩]))
def burinref9_Of_l0 : Cd := .seq (.seq (.reg false [1, 4, 5, 14] [⟨some 11, .mv (.t 5), none, 0, []⟩,
    ⟨some 12, .fad 1 (.t 1), none, 0, []⟩,
    ⟨some 13, .load none (.t 12), none, 0, []⟩,
    ⟨some 14, .bin .lss .num (.t 11) (.t 13), none, 0, []⟩])
  (.cond (.t 14) (.skip)
  (.exit 0)))
  (.seq (.block 1 (.seq (.reg false [1, 4, 5, 6] [⟨some 6, .mv (.c (.sl none 0 0 0)), none, 0, []⟩])
  (.seq (.seq (.reg false [1, 4, 5, 6, 7] [⟨some 7, .mv (.c (.int .i64 0)), none, 0, []⟩])
  (.block 2 (.loop [1, 4, 5, 6, 7] burinref9_Of_l1)))
  (.reg false [1, 4, 5] [⟨some 49, .mv (.t 4), none, 0, []⟩,
    ⟨some 50, .mv (.t 6), none, 0, []⟩,
    ⟨some 51, .bslice 1 [.sl none 0 0 0] 1 [(0, (.t 50))], none, 0, []⟩,
    ⟨some 52, .append 1 24 (.t 49) (.t 51), none, 0, []⟩,
    ⟨some 4, .mv (.t 52), none, 0, []⟩]))))
  (.reg false [1, 4, 5] [⟨some 15, .mv (.t 5), none, 0, []⟩,
    ⟨some 16, .bin .add .num (.t 15) (.c (.int .i64 1)), none, 0, []⟩,
    ⟨some 5, .mv (.t 16), none, 0, []⟩]))
/-- burin/burinref9.Of -/
def burinref9_Of : AFun := ⟨1, 54, true, [.t 2, .t 3],
  .seq (.reg false [1] [⟨some 1, .box 3 (.t 0), none, 0, []⟩,
    ⟨some 2, .mv (.c (.sl none 0 0 0)), none, 0, []⟩,
    ⟨some 3, .mv (.c (.int .i64 0)), none, 0, []⟩])
  (.seq (.seq (.reg false [1, 10] [⟨some 8, .load (some 3) (.t 1), none, 0, []⟩,
    ⟨some 9, .call (.f 76) [(.t 8)], none, 0, []⟩,
    ⟨some 10, .un .not (.t 9), none, 0, []⟩])
  (.cond (.t 10) (.seq (.reg false [2, 3] [⟨some 2, .mv (.c (.sl none 0 0 0)), none, 0, []⟩,
    ⟨some 3, .mv (.c (.int .i64 80)), none, 0, []⟩])
  (.ret))
  (.skip)))
  (.seq (.reg false [1, 4] [⟨some 4, .mv (.c (.sl none 0 0 0)), none, 0, []⟩])
  (.seq (.seq (.reg false [1, 4, 5] [⟨some 5, .mv (.c (.int .i64 0)), none, 0, []⟩])
  (.block 0 (.loop [1, 4, 5] burinref9_Of_l0)))
  (.seq (.reg false [2, 3] [⟨some 53, .mv (.t 4), none, 0, []⟩,
    ⟨some 2, .mv (.t 53), none, 0, []⟩,
    ⟨some 3, .mv (.c (.int .i64 0)), none, 0, []⟩])
  (.ret)))))⟩

def burinref9_Back_l4 : Cd := .seq (.seq (.reg false [0, 1, 4, 6, 7, 31] [⟨some 25, .mv (.t 7), none, 0, []⟩,
    ⟨some 26, .mv (.t 0), none, 0, []⟩,
    ⟨some 27, .mv (.t 6), none, 0, []⟩,
    ⟨some 28, .iad none 1 (.t 26) (.t 27), none, 0, []⟩,
    ⟨some 29, .load none (.t 28), none, 0, []⟩,
    ⟨some 30, .len none (.t 29), none, 0, []⟩,
    ⟨some 31, .bin .lss .num (.t 25) (.t 30), none, 0, []⟩])
  (.cond (.t 31) (.skip)
  (.exit 2)))
  (.seq (.block 3 (.seq (.reg false [0, 1, 4, 6, 7, 8] [⟨some 34, .mv (.t 0), none, 0, []⟩,
    ⟨some 35, .mv (.t 6), none, 0, []⟩,
    ⟨some 36, .iad none 1 (.t 34) (.t 35), none, 0, []⟩,
    ⟨some 37, .load none (.t 36), none, 0, []⟩,
    ⟨some 38, .mv (.t 7), none, 0, []⟩,
    ⟨some 39, .iad none 2 (.t 37) (.t 38), none, 0, []⟩,
    ⟨some 40, .load (some 2) (.t 39), none, 0, []⟩,
    ⟨some 8, .alloc [.int .i64 0, .int .i64 0], none, 0, []⟩,
    ⟨none, .store 2 (.t 8) (.t 40), none, 0, []⟩])
  (.seq (.reg true [0, 1, 4, 6, 7, 74] [⟨some 41, .fad 0 (.t 8), none, 0, []⟩,
    ⟨some 42, .load none (.t 41), none, 1, []⟩,
    ⟨some 43, .bin .lss .num (.t 42) (.c (.int .i64 0)), none, 2, []⟩,
    ⟨some 44, .mv (.t 43), none, 3, []⟩,
    ⟨some 45, .fad 1 (.t 8), some (44, false), 4, []⟩,
    ⟨some 46, .load none (.t 45), some (44, false), 5, []⟩,
    ⟨some 47, .mv (.t 1), some (44, false), 6, []⟩,
    ⟨some 48, .bin .gtr .num (.t 46) (.t 47), some (44, false), 7, []⟩,
    ⟨some 49, .pick (.t 44) (.c (.bool true)) (.t 48), none, 8, []⟩,
    ⟨some 50, .mv (.t 49), none, 9, []⟩,
    ⟨some 51, .fad 0 (.t 8), some (50, false), 10, []⟩,
    ⟨some 52, .load none (.t 51), some (50, false), 11, []⟩,
    ⟨some 53, .fad 1 (.t 8), some (50, false), 12, []⟩,
    ⟨some 54, .load none (.t 53), some (50, false), 13, []⟩,
    ⟨some 55, .bin .geq .num (.t 52) (.t 54), some (50, false), 14, []⟩,
    ⟨some 56, .pick (.t 50) (.c (.bool true)) (.t 55), none, 15, []⟩,
    ⟨some 57, .mv (.t 56), none, 16, []⟩,
    ⟨some 58, .mv (.t 7), some (57, false), 17, []⟩,
    ⟨some 59, .bin .gtr .num (.t 58) (.c (.int .i64 0)), some (57, false), 18, []⟩,
    ⟨some 60, .mv (.t 59), some (57, false), 19, []⟩,
    ⟨some 61, .fad 0 (.t 8), some (60, true), 20, []⟩,
    ⟨some 62, .load none (.t 61), some (60, true), 21, []⟩,
    ⟨some 63, .mv (.t 0), some (60, true), 22, []⟩,
    ⟨some 64, .mv (.t 6), some (60, true), 23, []⟩,
    ⟨some 65, .iad none 1 (.t 63) (.t 64), some (60, true), 24, []⟩,
    ⟨some 66, .load none (.t 65), some (60, true), 25, []⟩,
    ⟨some 67, .mv (.t 7), some (60, true), 26, []⟩,
    ⟨some 68, .bin .sub .num (.t 67) (.c (.int .i64 1)), some (60, true), 27, []⟩,
    ⟨some 69, .iad none 2 (.t 66) (.t 68), some (60, true), 28, []⟩,
    ⟨some 70, .fad 1 (.t 69), some (60, true), 29, []⟩,
    ⟨some 71, .load none (.t 70), some (60, true), 30, []⟩,
    ⟨some 72, .bin .leq .num (.t 62) (.t 71), some (60, true), 31, []⟩,
    ⟨some 73, .pick (.t 60) (.t 72) (.c (.bool false)), some (57, false), 32, []⟩,
    ⟨some 74, .pick (.t 57) (.c (.bool true)) (.t 73), none, 33, []⟩])
  (.cond (.t 74) (.seq (.reg false [4, 5] [⟨some 75, .build [.int .i64 0, .int .i64 0, .sl none 0 0 0] [], none, 0, []⟩,
    ⟨none, .store 3 (.t 4) (.t 75), none, 0, []⟩,
    ⟨some 5, .mv (.c (.int .i64 80)), none, 0, []⟩])
  (.ret))
  (.skip)))))
  (.reg false [0, 1, 4, 6, 7] [⟨some 32, .mv (.t 7), none, 0, []⟩,
    ⟨some 33, .bin .add .num (.t 32) (.c (.int .i64 1)), none, 0, []⟩,
    ⟨some 7, .mv (.t 33), none, 0, []⟩]))
def burinref9_Back_l3 : Cd := .seq (.seq (.reg false [0, 1, 4, 6, 22] [⟨some 19, .mv (.t 6), none, 0, []⟩,
    ⟨some 20, .mv (.t 0), none, 0, []⟩,
    ⟨some 21, .len none (.t 20), none, 0, []⟩,
    ⟨some 22, .bin .lss .num (.t 19) (.t 21), none, 0, []⟩])
  (.cond (.t 22) (.skip)
  (.exit 0)))
  (.seq (.block 1 (.seq (.reg false [0, 1, 4, 6, 7] [⟨some 7, .mv (.c (.int .i64 0)), none, 0, []⟩])
  (.block 2 (.loop [0, 1, 4, 6, 7] burinref9_Back_l4))))
  (.reg false [0, 1, 4, 6] [⟨some 23, .mv (.t 6), none, 0, []⟩,
    ⟨some 24, .bin .add .num (.t 23) (.c (.int .i64 1)), none, 0, []⟩,
    ⟨some 6, .mv (.t 24), none, 0, []⟩]))
def burinref9_Back_l2 : Cd := .seq (.seq (.reg false [0, 4, 9, 10, 11, 12, 112] [⟨some 103, .mv (.t 12), none, 0, []⟩,
    ⟨some 104, .mv (.t 0), none, 0, []⟩,
    ⟨some 105, .mv (.t 10), none, 0, []⟩,
    ⟨some 106, .iad none 1 (.t 104) (.t 105), none, 0, []⟩,
    ⟨some 107, .load none (.t 106), none, 0, []⟩,
    ⟨some 108, .mv (.t 11), none, 0, []⟩,
    ⟨some 109, .iad none 2 (.t 107) (.t 108), none, 0, []⟩,
    ⟨some 110, .fad 1 (.t 109), none, 0, []⟩,
    ⟨some 111, .load none (.t 110), none, 0, []⟩,
    ⟨some 112, .bin .lss .num (.t 103) (.t 111), none, 0, []⟩])
  (.cond (.t 112) (.skip)
  (.exit 8)))
  (.seq (.block 9 (.reg false [0, 4, 9, 10, 11, 12] [⟨some 115, .load (some 3) (.t 9), none, 0, []⟩,
    ⟨some 116, .mv (.t 12), none, 0, []⟩,
    ⟨some 117, .mv (.t 10), none, 0, []⟩,
    ⟨some 118, .call (.f 79) [(.t 115), (.t 116), (.t 117), (.c (.int .i64 1))], none, 0, []⟩]))
  (.reg false [0, 4, 9, 10, 11, 12] [⟨some 113, .mv (.t 12), none, 0, []⟩,
    ⟨some 114, .bin .add .num (.t 113) (.c (.int .i64 1)), none, 0, []⟩,
    ⟨some 12, .mv (.t 114), none, 0, []⟩]))
def burinref9_Back_l1 : Cd := .seq (.seq (.reg false [0, 4, 9, 10, 11, 92] [⟨some 86, .mv (.t 11), none, 0, []⟩,
    ⟨some 87, .mv (.t 0), none, 0, []⟩,
    ⟨some 88, .mv (.t 10), none, 0, []⟩,
    ⟨some 89, .iad none 1 (.t 87) (.t 88), none, 0, []⟩,
    ⟨some 90, .load none (.t 89), none, 0, []⟩,
    ⟨some 91, .len none (.t 90), none, 0, []⟩,
    ⟨some 92, .bin .lss .num (.t 86) (.t 91), none, 0, []⟩])
  (.cond (.t 92) (.skip)
  (.exit 6)))
  (.seq (.block 7 (.seq (.reg false [0, 4, 9, 10, 11, 12] [⟨some 95, .mv (.t 0), none, 0, []⟩,
    ⟨some 96, .mv (.t 10), none, 0, []⟩,
    ⟨some 97, .iad none 1 (.t 95) (.t 96), none, 0, []⟩,
    ⟨some 98, .load none (.t 97), none, 0, []⟩,
    ⟨some 99, .mv (.t 11), none, 0, []⟩,
    ⟨some 100, .iad none 2 (.t 98) (.t 99), none, 0, []⟩,
    ⟨some 101, .fad 0 (.t 100), none, 0, []⟩,
    ⟨some 102, .load none (.t 101), none, 0, []⟩,
    ⟨some 12, .mv (.t 102), none, 0, []⟩])
  (.block 8 (.loop [0, 4, 9, 10, 11, 12] burinref9_Back_l2))))
  (.reg false [0, 4, 9, 10, 11] [⟨some 93, .mv (.t 11), none, 0, []⟩,
    ⟨some 94, .bin .add .num (.t 93) (.c (.int .i64 1)), none, 0, []⟩,
    ⟨some 11, .mv (.t 94), none, 0, []⟩]))
def burinref9_Back_l0 : Cd := .seq (.seq (.reg false [0, 4, 9, 10, 83] [⟨some 80, .mv (.t 10), none, 0, []⟩,
    ⟨some 81, .mv (.t 0), none, 0, []⟩,
    ⟨some 82, .len none (.t 81), none, 0, []⟩,
    ⟨some 83, .bin .lss .num (.t 80) (.t 82), none, 0, []⟩])
  (.cond (.t 83) (.skip)
  (.exit 4)))
  (.seq (.block 5 (.seq (.reg false [0, 4, 9, 10, 11] [⟨some 11, .mv (.c (.int .i64 0)), none, 0, []⟩])
  (.block 6 (.loop [0, 4, 9, 10, 11] burinref9_Back_l1))))
  (.reg false [0, 4, 9, 10] [⟨some 84, .mv (.t 10), none, 0, []⟩,
    ⟨some 85, .bin .add .num (.t 84) (.c (.int .i64 1)), none, 0, []⟩,
    ⟨some 10, .mv (.t 85), none, 0, []⟩]))
/-- burin/burinref9.Back -/
def burinref9_Back : AFun := ⟨2, 120, true, [.cell 4 (some 3), .t 5],
  .seq (.reg false [0, 1, 4] [⟨some 4, .alloc [.int .i64 0, .int .i64 0, .sl none 0 0 0], none, 0, []⟩,
    ⟨some 5, .mv (.c (.int .i64 0)), none, 0, []⟩])
  (.seq (.seq (.reg false [0, 1, 4, 17] [⟨some 13, .mv (.t 1), none, 0, []⟩,
    ⟨some 14, .mv (.t 0), none, 0, []⟩,
    ⟨some 15, .len none (.t 14), none, 0, []⟩,
    ⟨some 16, .call (.f 74) [(.t 13), (.t 15)], none, 0, []⟩,
    ⟨some 17, .un .not (.t 16), none, 0, []⟩])
  (.cond (.t 17) (.seq (.reg false [4, 5] [⟨some 18, .build [.int .i64 0, .int .i64 0, .sl none 0 0 0] [], none, 0, []⟩,
    ⟨none, .store 3 (.t 4) (.t 18), none, 0, []⟩,
    ⟨some 5, .mv (.c (.int .i64 80)), none, 0, []⟩])
  (.ret))
  (.skip)))
  (.seq (.seq (.reg false [0, 1, 4, 6] [⟨some 6, .mv (.c (.int .i64 0)), none, 0, []⟩])
  (.block 0 (.loop [0, 1, 4, 6] burinref9_Back_l3)))
  (.seq (.reg false [0, 4, 9] [⟨some 76, .mv (.t 1), none, 0, []⟩,
    ⟨some 77, .mv (.t 0), none, 0, []⟩,
    ⟨some 78, .len none (.t 77), none, 0, []⟩,
    ⟨some 79, .call (.f 77) [(.t 76), (.t 78)], none, 0, []⟩,
    ⟨some 9, .alloc [.int .i64 0, .int .i64 0, .sl none 0 0 0], none, 0, []⟩,
    ⟨none, .store 3 (.t 9) (.t 79), none, 0, []⟩])
  (.seq (.seq (.reg false [0, 4, 9, 10] [⟨some 10, .mv (.c (.int .i64 0)), none, 0, []⟩])
  (.block 4 (.loop [0, 4, 9, 10] burinref9_Back_l0)))
  (.seq (.reg false [4, 5] [⟨some 119, .load (some 3) (.t 9), none, 0, []⟩,
    ⟨none, .store 3 (.t 4) (.t 119), none, 0, []⟩,
    ⟨some 5, .mv (.c (.int .i64 0)), none, 0, []⟩])
  (.ret))))))⟩

/-- burin/burinref9.Touch -/
def burinref9_Touch : AFun := ⟨2, 31, true, [.t 4],
  .seq (.reg false [2, 3] [⟨some 2, .box 2 (.t 0), none, 0, []⟩,
    ⟨some 3, .box 2 (.t 1), none, 0, []⟩,
    ⟨some 4, .mv (.c (.bool false)), none, 0, []⟩])
  (.seq (.reg false [4] [⟨some 5, .fad 0 (.t 2), none, 0, []⟩,
    ⟨some 6, .load none (.t 5), none, 0, []⟩,
    ⟨some 7, .fad 1 (.t 2), none, 0, []⟩,
    ⟨some 8, .load none (.t 7), none, 0, []⟩,
    ⟨some 9, .bin .lss .num (.t 6) (.t 8), none, 0, []⟩,
    ⟨some 10, .mv (.t 9), none, 0, []⟩,
    ⟨some 11, .fad 0 (.t 3), some (10, true), 0, []⟩,
    ⟨some 12, .load none (.t 11), some (10, true), 0, []⟩,
    ⟨some 13, .fad 1 (.t 3), some (10, true), 0, []⟩,
    ⟨some 14, .load none (.t 13), some (10, true), 0, []⟩,
    ⟨some 15, .bin .lss .num (.t 12) (.t 14), some (10, true), 0, []⟩,
    ⟨some 16, .pick (.t 10) (.t 15) (.c (.bool false)), none, 0, []⟩,
    ⟨some 17, .mv (.t 16), none, 0, []⟩,
    ⟨some 18, .fad 0 (.t 2), some (17, true), 0, []⟩,
    ⟨some 19, .load none (.t 18), some (17, true), 0, []⟩,
    ⟨some 20, .fad 1 (.t 3), some (17, true), 0, []⟩,
    ⟨some 21, .load none (.t 20), some (17, true), 0, []⟩,
    ⟨some 22, .bin .leq .num (.t 19) (.t 21), some (17, true), 0, []⟩,
    ⟨some 23, .pick (.t 17) (.t 22) (.c (.bool false)), none, 0, []⟩,
    ⟨some 24, .mv (.t 23), none, 0, []⟩,
    ⟨some 25, .fad 0 (.t 3), some (24, true), 0, []⟩,
    ⟨some 26, .load none (.t 25), some (24, true), 0, []⟩,
    ⟨some 27, .fad 1 (.t 2), some (24, true), 0, []⟩,
    ⟨some 28, .load none (.t 27), some (24, true), 0, []⟩,
    ⟨some 29, .bin .leq .num (.t 26) (.t 28), some (24, true), 0, []⟩,
    ⟨some 30, .pick (.t 24) (.t 29) (.c (.bool false)), none, 0, []⟩,
    ⟨some 4, .mv (.t 30), none, 0, []⟩])
  (.ret))⟩

def burinref0_EqRuns_l1 : Cd := .seq (.seq (.reg false [0, 1, 5, 6, 35] [⟨some 29, .mv (.t 6), none, 0, []⟩,
    ⟨some 30, .mv (.t 0), none, 0, []⟩,
    ⟨some 31, .mv (.t 5), none, 0, []⟩,
    ⟨some 32, .iad none 1 (.t 30) (.t 31), none, 0, []⟩,
    ⟨some 33, .load none (.t 32), none, 0, []⟩,
    ⟨some 34, .len none (.t 33), none, 0, []⟩,
    ⟨some 35, .bin .lss .num (.t 29) (.t 34), none, 0, []⟩])
  (.cond (.t 35) (.skip)
  (.exit 2)))
  (.seq (.block 3 (.seq (.reg true [0, 1, 5, 6, 52] [⟨some 38, .mv (.t 0), none, 0, []⟩,
    ⟨some 39, .mv (.t 5), none, 1, []⟩,
    ⟨some 40, .iad none 1 (.t 38) (.t 39), none, 2, []⟩,
    ⟨some 41, .load none (.t 40), none, 3, []⟩,
    ⟨some 42, .mv (.t 6), none, 4, []⟩,
    ⟨some 43, .iad none 2 (.t 41) (.t 42), none, 5, []⟩,
    ⟨some 44, .load (some 2) (.t 43), none, 6, []⟩,
    ⟨some 45, .mv (.t 1), none, 7, []⟩,
    ⟨some 46, .mv (.t 5), none, 8, []⟩,
    ⟨some 47, .iad none 1 (.t 45) (.t 46), none, 9, []⟩,
    ⟨some 48, .load none (.t 47), none, 10, []⟩,
    ⟨some 49, .mv (.t 6), none, 11, []⟩,
    ⟨some 50, .iad none 2 (.t 48) (.t 49), none, 12, []⟩,
    ⟨some 51, .load (some 2) (.t 50), none, 13, []⟩,
    ⟨some 52, .bin .neq (.agg [(0, .num), (1, .num)]) (.t 44) (.t 51), none, 14, []⟩])
  (.cond (.t 52) (.seq (.reg false [4] [⟨some 4, .mv (.c (.bool false)), none, 0, []⟩])
  (.ret))
  (.skip))))
  (.reg false [0, 1, 5, 6] [⟨some 36, .mv (.t 6), none, 0, []⟩,
    ⟨some 37, .bin .add .num (.t 36) (.c (.int .i64 1)), none, 0, []⟩,
    ⟨some 6, .mv (.t 37), none, 0, []⟩]))
def burinref0_EqRuns_l0 : Cd := .seq (.seq (.reg false [0, 1, 5, 15] [⟨some 12, .mv (.t 5), none, 0, []⟩,
    ⟨some 13, .mv (.t 0), none, 0, []⟩,
    ⟨some 14, .len none (.t 13), none, 0, []⟩,
    ⟨some 15, .bin .lss .num (.t 12) (.t 14), none, 0, []⟩])
  (.cond (.t 15) (.skip)
  (.exit 0)))
  (.seq (.block 1 (.seq (.seq (.reg true [0, 1, 5, 28] [⟨some 18, .mv (.t 0), none, 0, []⟩,
    ⟨some 19, .mv (.t 5), none, 1, []⟩,
    ⟨some 20, .iad none 1 (.t 18) (.t 19), none, 2, []⟩,
    ⟨some 21, .load none (.t 20), none, 3, []⟩,
    ⟨some 22, .len none (.t 21), none, 4, []⟩,
    ⟨some 23, .mv (.t 1), none, 5, []⟩,
    ⟨some 24, .mv (.t 5), none, 6, []⟩,
    ⟨some 25, .iad none 1 (.t 23) (.t 24), none, 7, []⟩,
    ⟨some 26, .load none (.t 25), none, 8, []⟩,
    ⟨some 27, .len none (.t 26), none, 9, []⟩,
    ⟨some 28, .bin .neq .num (.t 22) (.t 27), none, 10, []⟩])
  (.cond (.t 28) (.seq (.reg false [4] [⟨some 4, .mv (.c (.bool false)), none, 0, []⟩])
  (.ret))
  (.skip)))
  (.seq (.reg false [0, 1, 5, 6] [⟨some 6, .mv (.c (.int .i64 0)), none, 0, []⟩])
  (.block 2 (.loop [0, 1, 5, 6] burinref0_EqRuns_l1)))))
  (.reg false [0, 1, 5] [⟨some 16, .mv (.t 5), none, 0, []⟩,
    ⟨some 17, .bin .add .num (.t 16) (.c (.int .i64 1)), none, 0, []⟩,
    ⟨some 5, .mv (.t 17), none, 0, []⟩]))
/-- burin/burinref0.EqRuns -/
def burinref0_EqRuns : AFun := ⟨2, 53, true, [.t 4],
  .seq (.reg false [0, 1] [⟨some 4, .mv (.c (.bool false)), none, 0, []⟩])
  (.seq (.seq (.reg false [0, 1, 11] [⟨some 7, .mv (.t 0), none, 0, []⟩,
    ⟨some 8, .len none (.t 7), none, 0, []⟩,
    ⟨some 9, .mv (.t 1), none, 0, []⟩,
    ⟨some 10, .len none (.t 9), none, 0, []⟩,
    ⟨some 11, .bin .neq .num (.t 8) (.t 10), none, 0, []⟩])
  (.cond (.t 11) (.seq (.reg false [4] [⟨some 4, .mv (.c (.bool false)), none, 0, []⟩])
  (.ret))
  (.skip)))
  (.seq (.seq (.reg false [0, 1, 5] [⟨some 5, .mv (.c (.int .i64 0)), none, 0, []⟩])
  (.block 0 (.loop [0, 1, 5] burinref0_EqRuns_l0)))
  (.seq (.reg false [4] [⟨some 4, .mv (.c (.bool true)), none, 0, []⟩])
  (.ret))))⟩

/-- burin/burinlaw9.wakes -/
def burinlaw9_wakes : AFun := ⟨0, 45, true, [.t 0],
  .seq (.reg false [] [⟨some 0, .mv (.c (.bool false)), none, 0, []⟩])
  (.seq (.reg false [1] [⟨some 6, .bslice 1 [.int .u64 0] 1 [(0, (.c (.int .u64 7493989779944505344)))], none, 0, []⟩,
    ⟨some 7, .build [.int .i64 0, .int .i64 0, .sl none 0 0 0] [(0, 1, (.c (.int .i64 5))), (1, 1, (.c (.int .i64 1))), (2, 1, (.t 6))], none, 0, []⟩,
    ⟨some 1, .alloc [.int .i64 0, .int .i64 0, .sl none 0 0 0], none, 0, []⟩,
    ⟨none, .store 3 (.t 1) (.t 7), none, 0, []⟩])
  (.seq (.reg false [1, 2, 3] [⟨some 9, .load (some 3) (.t 1), none, 0, []⟩,
    ⟨some 10, .call (.f 115) [(.t 9)], none, 0, []⟩,
    ⟨some 8, .mv (.t 10), none, 0, []⟩,
    ⟨some 11, .ext 0 (.t 8), none, 0, []⟩,
    ⟨some 12, .ext 1 (.t 8), none, 0, []⟩,
    ⟨some 2, .mv (.t 11), none, 0, []⟩,
    ⟨some 3, .mv (.t 12), none, 0, []⟩])
  (.seq (.reg false [1, 2, 3, 4, 5] [⟨some 14, .build [.int .i64 0, .int .i64 0] [(0, 1, (.c (.int .i64 1))), (1, 1, (.c (.int .i64 3)))], none, 0, []⟩,
    ⟨some 15, .build [.int .i64 0, .int .i64 0] [(0, 1, (.c (.int .i64 4))), (1, 1, (.c (.int .i64 5)))], none, 0, []⟩,
    ⟨some 16, .bslice 2 [.int .i64 0, .int .i64 0] 2 [(0, (.t 14)), (1, (.t 15))], none, 0, []⟩,
    ⟨some 17, .bslice 1 [.sl none 0 0 0] 1 [(0, (.t 16))], none, 0, []⟩,
    ⟨some 18, .call (.f 116) [(.t 17), (.c (.int .i64 5))], none, 0, []⟩,
    ⟨some 13, .mv (.t 18), none, 0, []⟩,
    ⟨some 19, .ext 0 (.t 13), none, 0, []⟩,
    ⟨some 20, .ext 1 (.t 13), none, 0, []⟩,
    ⟨some 4, .alloc [.int .i64 0, .int .i64 0, .sl none 0 0 0], none, 0, []⟩,
    ⟨none, .store 3 (.t 4) (.t 19), none, 0, []⟩,
    ⟨some 5, .mv (.t 20), none, 0, []⟩])
  (.seq (.reg false [0] [⟨some 21, .mv (.t 3), none, 0, []⟩,
    ⟨some 22, .bin .eql .num (.t 21) (.c (.int .i64 0)), none, 0, []⟩,
    ⟨some 23, .mv (.t 22), none, 0, []⟩,
    ⟨some 24, .mv (.t 5), some (23, true), 0, []⟩,
    ⟨some 25, .bin .eql .num (.t 24) (.c (.int .i64 0)), some (23, true), 0, []⟩,
    ⟨some 26, .pick (.t 23) (.t 25) (.c (.bool false)), none, 0, []⟩,
    ⟨some 27, .mv (.t 26), none, 0, []⟩,
    ⟨some 28, .mv (.t 2), some (27, true), 0, []⟩,
    ⟨some 29, .build [.int .i64 0, .int .i64 0] [(0, 1, (.c (.int .i64 1))), (1, 1, (.c (.int .i64 3)))], some (27, true), 0, []⟩,
    ⟨some 30, .build [.int .i64 0, .int .i64 0] [(0, 1, (.c (.int .i64 4))), (1, 1, (.c (.int .i64 5)))], some (27, true), 0, []⟩,
    ⟨some 31, .bslice 2 [.int .i64 0, .int .i64 0] 2 [(0, (.t 29)), (1, (.t 30))], some (27, true), 0, []⟩,
    ⟨some 32, .bslice 1 [.sl none 0 0 0] 1 [(0, (.t 31))], some (27, true), 0, []⟩,
    ⟨some 33, .call (.f 121) [(.t 28), (.t 32)], some (27, true), 0, []⟩,
    ⟨some 34, .pick (.t 27) (.t 33) (.c (.bool false)), none, 0, []⟩,
    ⟨some 35, .mv (.t 34), none, 0, []⟩,
    ⟨some 36, .load (some 3) (.t 1), some (35, true), 0, []⟩,
    ⟨some 37, .load (some 3) (.t 4), some (35, true), 0, []⟩,
    ⟨some 38, .call (.f 84) [(.t 36), (.t 37)], some (35, true), 0, []⟩,
    ⟨some 39, .pick (.t 35) (.t 38) (.c (.bool false)), none, 0, []⟩,
    ⟨some 40, .mv (.t 39), none, 0, []⟩,
    ⟨some 41, .build [.int .i64 0, .int .i64 0] [(0, 1, (.c (.int .i64 0))), (1, 1, (.c (.int .i64 2)))], some (40, true), 0, []⟩,
    ⟨some 42, .build [.int .i64 0, .int .i64 0] [(0, 1, (.c (.int .i64 2))), (1, 1, (.c (.int .i64 3)))], some (40, true), 0, []⟩,
    ⟨some 43, .call (.f 117) [(.t 41), (.t 42)], some (40, true), 0, []⟩,
    ⟨some 44, .pick (.t 40) (.t 43) (.c (.bool false)), none, 0, []⟩,
    ⟨some 0, .mv (.t 44), none, 0, []⟩])
  (.ret)))))⟩

/-- A program that has them. -/
structure HasRf9 (P : Prog) : Prop where
  h_burinref9_Of : P 118 = some burinref9_Of
  h_burinref9_Back : P 119 = some burinref9_Back
  h_burinref9_Touch : P 120 = some burinref9_Touch
  h_burinref0_EqRuns : P 121 = some burinref0_EqRuns
  h_burinlaw9_wakes : P 122 = some burinlaw9_wakes

end Go.Ab
