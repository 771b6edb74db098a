/- The texts of functions of the given program, for the abstract machine: written by wip/tools/gen.py out of Lean's print of the translation. Conditions: none; definitions alone. -/
import Derived.Test.YtfgecfbknpifjaaK1
set_option linter.all false
namespace Go.Ab
-- burinref0_EqPieces: 180, parameters a b; loops burinref0_EqPieces_l0 [0 a, 1 b, 5 i]
-- burinref0_CopyPieces: 191, parameters l; loops burinref0_CopyPieces_l0 [0 l, 3 out, 4 i]
-- burinref0_Lay: 193, parameters ? ? ? ? ?; loops burinref0_Lay_l0 [1 ?, 2 ?, 3 ?, 5 ?, 9 ?, 10 ?]; burinref0_Lay_l1 [1 ?, 2 ?, 3 ?, 5 ?, 9 ?, 10 ?, 11 ?]
-- burinref10_Back: 190, parameters l w h; loops burinref10_Back_l0 [0 l, 6 , 9 b, 10 i]; burinref10_Back_l1 [0 l, 1 w, 2 h, 6 , 8 i]

def burinref0_EqPieces_l0 : Cd := .seq (.seq (.reg false [0, 1, 5, 14] [⟨some 11, .mv (.t 5), none, 0, []⟩,
    ⟨some 12, .mv (.t 0), none, 0, []⟩,
    ⟨some 13, .len none (.t 12), none, 0, []⟩,
    ⟨some 14, .bin .lss .num (.t 11) (.t 13), none, 0, []⟩])
  (.cond (.t 14) (.skip)
  (.exit 0)))
  (.seq (.block 1 (.seq (.reg true [0, 1, 5, 54] [⟨some 17, .mv (.t 0), none, 0, []⟩,
    ⟨some 18, .mv (.t 5), none, 1, []⟩,
    ⟨some 19, .iad none 5 (.t 17) (.t 18), none, 2, []⟩,
    ⟨some 20, .fad 0 (.t 19), none, 3, []⟩,
    ⟨some 21, .load none (.t 20), none, 4, []⟩,
    ⟨some 22, .mv (.t 1), none, 5, []⟩,
    ⟨some 23, .mv (.t 5), none, 6, []⟩,
    ⟨some 24, .iad none 5 (.t 22) (.t 23), none, 7, []⟩,
    ⟨some 25, .fad 0 (.t 24), none, 8, []⟩,
    ⟨some 26, .load none (.t 25), none, 9, []⟩,
    ⟨some 27, .bin .neq .num (.t 21) (.t 26), none, 10, []⟩,
    ⟨some 28, .mv (.t 27), none, 11, []⟩,
    ⟨some 29, .mv (.t 0), some (28, false), 12, []⟩,
    ⟨some 30, .mv (.t 5), some (28, false), 13, []⟩,
    ⟨some 31, .iad none 5 (.t 29) (.t 30), some (28, false), 14, []⟩,
    ⟨some 32, .fad 1 (.t 31), some (28, false), 15, []⟩,
    ⟨some 33, .load none (.t 32), some (28, false), 16, []⟩,
    ⟨some 34, .mv (.t 1), some (28, false), 17, []⟩,
    ⟨some 35, .mv (.t 5), some (28, false), 18, []⟩,
    ⟨some 36, .iad none 5 (.t 34) (.t 35), some (28, false), 19, []⟩,
    ⟨some 37, .fad 1 (.t 36), some (28, false), 20, []⟩,
    ⟨some 38, .load none (.t 37), some (28, false), 21, []⟩,
    ⟨some 39, .bin .neq .num (.t 33) (.t 38), some (28, false), 22, []⟩,
    ⟨some 40, .pick (.t 28) (.c (.bool true)) (.t 39), none, 23, []⟩,
    ⟨some 41, .mv (.t 40), none, 24, []⟩,
    ⟨some 42, .mv (.t 0), some (41, false), 25, []⟩,
    ⟨some 43, .mv (.t 5), some (41, false), 26, []⟩,
    ⟨some 44, .iad none 5 (.t 42) (.t 43), some (41, false), 27, []⟩,
    ⟨some 45, .fad 2 (.t 44), some (41, false), 28, []⟩,
    ⟨some 46, .load (some 3) (.t 45), some (41, false), 29, []⟩,
    ⟨some 47, .mv (.t 1), some (41, false), 30, []⟩,
    ⟨some 48, .mv (.t 5), some (41, false), 31, []⟩,
    ⟨some 49, .iad none 5 (.t 47) (.t 48), some (41, false), 32, []⟩,
    ⟨some 50, .fad 2 (.t 49), some (41, false), 33, []⟩,
    ⟨some 51, .load (some 3) (.t 50), some (41, false), 34, []⟩,
    ⟨some 52, .call (.f 84) [(.t 46), (.t 51)], some (41, false), 35, []⟩,
    ⟨some 53, .un .not (.t 52), some (41, false), 36, []⟩,
    ⟨some 54, .pick (.t 41) (.c (.bool true)) (.t 53), none, 37, []⟩])
  (.cond (.t 54) (.seq (.reg false [4] [⟨some 4, .mv (.c (.bool false)), none, 0, []⟩])
  (.ret))
  (.skip))))
  (.reg false [0, 1, 5] [⟨some 15, .mv (.t 5), none, 0, []⟩,
    ⟨some 16, .bin .add .num (.t 15) (.c (.int .i64 1)), none, 0, []⟩,
    ⟨some 5, .mv (.t 16), none, 0, []⟩]))
/-- burin/burinref0.EqPieces -/
def burinref0_EqPieces : AFun := ⟨2, 55, true, [.t 4],
  .seq (.reg false [0, 1] [⟨some 4, .mv (.c (.bool false)), none, 0, []⟩])
  (.seq (.seq (.reg false [0, 1, 10] [⟨some 6, .mv (.t 0), none, 0, []⟩,
    ⟨some 7, .len none (.t 6), none, 0, []⟩,
    ⟨some 8, .mv (.t 1), none, 0, []⟩,
    ⟨some 9, .len none (.t 8), none, 0, []⟩,
    ⟨some 10, .bin .neq .num (.t 7) (.t 9), none, 0, []⟩])
  (.cond (.t 10) (.seq (.reg false [4] [⟨some 4, .mv (.c (.bool false)), none, 0, []⟩])
  (.ret))
  (.skip)))
  (.seq (.seq (.reg false [0, 1, 5] [⟨some 5, .mv (.c (.int .i64 0)), none, 0, []⟩])
  (.block 0 (.loop [0, 1, 5] burinref0_EqPieces_l0)))
  (.seq (.reg false [4] [⟨some 4, .mv (.c (.bool true)), none, 0, []⟩])
  (.ret))))⟩

def burinref0_CopyPieces_l0 : Cd := .seq (.seq (.reg false [0, 3, 4, 8] [⟨some 5, .mv (.t 4), none, 0, []⟩,
    ⟨some 6, .mv (.t 0), none, 0, []⟩,
    ⟨some 7, .len none (.t 6), none, 0, []⟩,
    ⟨some 8, .bin .lss .num (.t 5) (.t 7), none, 0, []⟩])
  (.cond (.t 8) (.skip)
  (.exit 0)))
  (.seq (.block 1 (.reg true [0, 3, 4] [⟨some 11, .mv (.t 3), none, 0, []⟩,
    ⟨some 12, .mv (.t 0), none, 1, []⟩,
    ⟨some 13, .mv (.t 4), none, 2, []⟩,
    ⟨some 14, .iad none 5 (.t 12) (.t 13), none, 3, []⟩,
    ⟨some 15, .fad 0 (.t 14), none, 4, []⟩,
    ⟨some 16, .load none (.t 15), none, 5, []⟩,
    ⟨some 17, .mv (.t 0), none, 6, []⟩,
    ⟨some 18, .mv (.t 4), none, 7, []⟩,
    ⟨some 19, .iad none 5 (.t 17) (.t 18), none, 8, []⟩,
    ⟨some 20, .fad 1 (.t 19), none, 9, []⟩,
    ⟨some 21, .load none (.t 20), none, 10, []⟩,
    ⟨some 22, .mv (.t 0), none, 11, []⟩,
    ⟨some 23, .mv (.t 4), none, 12, []⟩,
    ⟨some 24, .iad none 5 (.t 22) (.t 23), none, 13, []⟩,
    ⟨some 25, .fad 2 (.t 24), none, 14, []⟩,
    ⟨some 26, .load (some 3) (.t 25), none, 15, []⟩,
    ⟨some 27, .call (.f 82) [(.t 26)], none, 16, [5, 10]⟩,
    ⟨some 28, .build [.int .i64 0, .int .i64 0, .int .i64 0, .int .i64 0, .sl none 0 0 0] [(0, 1, (.t 16)), (1, 1, (.t 21)), (2, 3, (.t 27))], none, 17, []⟩,
    ⟨some 29, .bslice 5 [.int .i64 0, .int .i64 0, .int .i64 0, .int .i64 0, .sl none 0 0 0] 1 [(0, (.t 28))], none, 18, []⟩,
    ⟨some 30, .append 5 56 (.t 11) (.t 29), none, 19, []⟩,
    ⟨some 3, .mv (.t 30), none, 20, []⟩]))
  (.reg false [0, 3, 4] [⟨some 9, .mv (.t 4), none, 0, []⟩,
    ⟨some 10, .bin .add .num (.t 9) (.c (.int .i64 1)), none, 0, []⟩,
    ⟨some 4, .mv (.t 10), none, 0, []⟩]))
/-- burin/burinref0.CopyPieces -/
def burinref0_CopyPieces : AFun := ⟨1, 32, true, [.t 2],
  .seq (.reg false [0] [⟨some 2, .mv (.c (.sl none 0 0 0)), none, 0, []⟩])
  (.seq (.reg false [0, 3] [⟨some 3, .mv (.c (.sl none 0 0 0)), none, 0, []⟩])
  (.seq (.seq (.reg false [0, 3, 4] [⟨some 4, .mv (.c (.int .i64 0)), none, 0, []⟩])
  (.block 0 (.loop [0, 3, 4] burinref0_CopyPieces_l0)))
  (.seq (.reg false [2] [⟨some 31, .mv (.t 3), none, 0, []⟩,
    ⟨some 2, .mv (.t 31), none, 0, []⟩])
  (.ret))))⟩

def burinref0_Lay_l1 : Cd := .seq (.seq (.reg false [1, 2, 3, 5, 9, 10, 11, 45] [⟨some 42, .mv (.t 11), none, 0, []⟩,
    ⟨some 43, .fad 0 (.t 9), none, 0, []⟩,
    ⟨some 44, .load none (.t 43), none, 0, []⟩,
    ⟨some 45, .bin .lss .num (.t 42) (.t 44), none, 0, []⟩])
  (.cond (.t 45) (.skip)
  (.exit 2)))
  (.seq (.block 3 (.seq (.reg false [1, 2, 3, 5, 9, 10, 11, 73] [⟨some 48, .mv (.t 1), none, 0, []⟩,
    ⟨some 49, .mv (.t 11), none, 0, []⟩,
    ⟨some 50, .bin .add .num (.t 48) (.t 49), none, 0, []⟩,
    ⟨some 51, .bin .geq .num (.t 50) (.c (.int .i64 0)), none, 0, []⟩,
    ⟨some 52, .mv (.t 51), none, 0, []⟩,
    ⟨some 53, .mv (.t 1), some (52, true), 0, []⟩,
    ⟨some 54, .mv (.t 11), some (52, true), 0, []⟩,
    ⟨some 55, .bin .add .num (.t 53) (.t 54), some (52, true), 0, []⟩,
    ⟨some 56, .fad 0 (.t 5), some (52, true), 0, []⟩,
    ⟨some 57, .load none (.t 56), some (52, true), 0, []⟩,
    ⟨some 58, .bin .lss .num (.t 55) (.t 57), some (52, true), 0, []⟩,
    ⟨some 59, .pick (.t 52) (.t 58) (.c (.bool false)), none, 0, []⟩,
    ⟨some 60, .mv (.t 59), none, 0, []⟩,
    ⟨some 61, .mv (.t 2), some (60, true), 0, []⟩,
    ⟨some 62, .mv (.t 10), some (60, true), 0, []⟩,
    ⟨some 63, .bin .add .num (.t 61) (.t 62), some (60, true), 0, []⟩,
    ⟨some 64, .bin .geq .num (.t 63) (.c (.int .i64 0)), some (60, true), 0, []⟩,
    ⟨some 65, .pick (.t 60) (.t 64) (.c (.bool false)), none, 0, []⟩,
    ⟨some 66, .mv (.t 65), none, 0, []⟩,
    ⟨some 67, .mv (.t 2), some (66, true), 0, []⟩,
    ⟨some 68, .mv (.t 10), some (66, true), 0, []⟩,
    ⟨some 69, .bin .add .num (.t 67) (.t 68), some (66, true), 0, []⟩,
    ⟨some 70, .fad 1 (.t 5), some (66, true), 0, []⟩,
    ⟨some 71, .load none (.t 70), some (66, true), 0, []⟩,
    ⟨some 72, .bin .lss .num (.t 69) (.t 71), some (66, true), 0, []⟩,
    ⟨some 73, .pick (.t 66) (.t 72) (.c (.bool false)), none, 0, []⟩])
  (.cond (.t 73) (.reg true [1, 2, 3, 5, 9, 10, 11] [⟨some 74, .load (some 3) (.t 5), none, 0, []⟩,
    ⟨some 75, .mv (.t 1), none, 1, []⟩,
    ⟨some 76, .mv (.t 11), none, 2, []⟩,
    ⟨some 77, .bin .add .num (.t 75) (.t 76), none, 3, []⟩,
    ⟨some 78, .mv (.t 2), none, 4, []⟩,
    ⟨some 79, .mv (.t 10), none, 5, []⟩,
    ⟨some 80, .bin .add .num (.t 78) (.t 79), none, 6, []⟩,
    ⟨some 81, .mv (.t 3), none, 7, []⟩,
    ⟨some 82, .load (some 3) (.t 5), none, 8, []⟩,
    ⟨some 83, .mv (.t 1), none, 9, []⟩,
    ⟨some 84, .mv (.t 11), none, 10, []⟩,
    ⟨some 85, .bin .add .num (.t 83) (.t 84), none, 11, []⟩,
    ⟨some 86, .mv (.t 2), none, 12, []⟩,
    ⟨some 87, .mv (.t 10), none, 13, []⟩,
    ⟨some 88, .bin .add .num (.t 86) (.t 87), none, 14, []⟩,
    ⟨some 90, .load (some 3) (.t 9), none, 16, []⟩,
    ⟨some 91, .mv (.t 11), none, 17, []⟩,
    ⟨some 92, .mv (.t 10), none, 18, []⟩,
    ⟨some 89, .call (.f 78) [(.t 82), (.t 85), (.t 88)], none, 15, [0, 16]⟩,
    ⟨some 93, .call (.f 78) [(.t 90), (.t 91), (.t 92)], none, 19, [0]⟩,
    ⟨some 94, .call (.f 80) [(.t 81), (.t 89), (.t 93)], none, 20, [0]⟩,
    ⟨some 95, .call (.f 79) [(.t 74), (.t 77), (.t 80), (.t 94)], none, 21, []⟩])
  (.skip))))
  (.reg false [1, 2, 3, 5, 9, 10, 11] [⟨some 46, .mv (.t 11), none, 0, []⟩,
    ⟨some 47, .bin .add .num (.t 46) (.c (.int .i64 1)), none, 0, []⟩,
    ⟨some 11, .mv (.t 47), none, 0, []⟩]))
def burinref0_Lay_l0 : Cd := .seq (.seq (.reg false [1, 2, 3, 5, 9, 10, 39] [⟨some 36, .mv (.t 10), none, 0, []⟩,
    ⟨some 37, .fad 1 (.t 9), none, 0, []⟩,
    ⟨some 38, .load none (.t 37), none, 0, []⟩,
    ⟨some 39, .bin .lss .num (.t 36) (.t 38), none, 0, []⟩])
  (.cond (.t 39) (.skip)
  (.exit 0)))
  (.seq (.block 1 (.seq (.reg false [1, 2, 3, 5, 9, 10, 11] [⟨some 11, .mv (.c (.int .i64 0)), none, 0, []⟩])
  (.block 2 (.loop [1, 2, 3, 5, 9, 10, 11] burinref0_Lay_l1))))
  (.reg false [1, 2, 3, 5, 9, 10] [⟨some 40, .mv (.t 10), none, 0, []⟩,
    ⟨some 41, .bin .add .num (.t 40) (.c (.int .i64 1)), none, 0, []⟩,
    ⟨some 10, .mv (.t 41), none, 0, []⟩]))
/-- burin/burinref0.Lay -/
def burinref0_Lay : AFun := ⟨5, 96, true, [],
  .seq (.reg false [1, 2, 3, 5, 9] [⟨some 5, .box 3 (.t 0), none, 0, []⟩,
    ⟨some 9, .box 3 (.t 4), none, 0, []⟩])
  (.seq (.seq (.reg false [1, 2, 3, 5, 9, 35] [⟨some 12, .mv (.t 1), none, 0, []⟩,
    ⟨some 13, .fad 0 (.t 5), none, 0, []⟩,
    ⟨some 14, .load none (.t 13), none, 0, []⟩,
    ⟨some 15, .bin .geq .num (.t 12) (.t 14), none, 0, []⟩,
    ⟨some 16, .mv (.t 15), none, 0, []⟩,
    ⟨some 17, .mv (.t 2), some (16, false), 0, []⟩,
    ⟨some 18, .fad 1 (.t 5), some (16, false), 0, []⟩,
    ⟨some 19, .load none (.t 18), some (16, false), 0, []⟩,
    ⟨some 20, .bin .geq .num (.t 17) (.t 19), some (16, false), 0, []⟩,
    ⟨some 21, .pick (.t 16) (.c (.bool true)) (.t 20), none, 0, []⟩,
    ⟨some 22, .mv (.t 21), none, 0, []⟩,
    ⟨some 23, .mv (.t 1), some (22, false), 0, []⟩,
    ⟨some 24, .fad 0 (.t 9), some (22, false), 0, []⟩,
    ⟨some 25, .load none (.t 24), some (22, false), 0, []⟩,
    ⟨some 26, .un .neg (.t 25), some (22, false), 0, []⟩,
    ⟨some 27, .bin .leq .num (.t 23) (.t 26), some (22, false), 0, []⟩,
    ⟨some 28, .pick (.t 22) (.c (.bool true)) (.t 27), none, 0, []⟩,
    ⟨some 29, .mv (.t 28), none, 0, []⟩,
    ⟨some 30, .mv (.t 2), some (29, false), 0, []⟩,
    ⟨some 31, .fad 1 (.t 9), some (29, false), 0, []⟩,
    ⟨some 32, .load none (.t 31), some (29, false), 0, []⟩,
    ⟨some 33, .un .neg (.t 32), some (29, false), 0, []⟩,
    ⟨some 34, .bin .leq .num (.t 30) (.t 33), some (29, false), 0, []⟩,
    ⟨some 35, .pick (.t 29) (.c (.bool true)) (.t 34), none, 0, []⟩])
  (.cond (.t 35) (.ret)
  (.skip)))
  (.seq (.reg false [1, 2, 3, 5, 9, 10] [⟨some 10, .mv (.c (.int .i64 0)), none, 0, []⟩])
  (.block 0 (.loop [1, 2, 3, 5, 9, 10] burinref0_Lay_l0))))⟩

def burinref10_Back_l1 : Cd := .seq (.seq (.reg false [0, 1, 2, 6, 8, 19] [⟨some 16, .mv (.t 8), none, 0, []⟩,
    ⟨some 17, .mv (.t 0), none, 0, []⟩,
    ⟨some 18, .len none (.t 17), none, 0, []⟩,
    ⟨some 19, .bin .lss .num (.t 16) (.t 18), none, 0, []⟩])
  (.cond (.t 19) (.skip)
  (.exit 0)))
  (.seq (.block 1 (.seq (.reg false [0, 1, 2, 6, 8, 28] [⟨some 22, .mv (.t 0), none, 0, []⟩,
    ⟨some 23, .mv (.t 8), none, 0, []⟩,
    ⟨some 24, .iad none 5 (.t 22) (.t 23), none, 0, []⟩,
    ⟨some 25, .fad 2 (.t 24), none, 0, []⟩,
    ⟨some 26, .load (some 3) (.t 25), none, 0, []⟩,
    ⟨some 27, .call (.f 76) [(.t 26)], none, 0, []⟩,
    ⟨some 28, .un .not (.t 27), none, 0, []⟩])
  (.cond (.t 28) (.seq (.reg false [6, 7] [⟨some 29, .build [.int .i64 0, .int .i64 0, .sl none 0 0 0] [], none, 0, []⟩,
    ⟨none, .store 3 (.t 6) (.t 29), none, 0, []⟩,
    ⟨some 7, .mv (.c (.int .i64 90)), none, 0, []⟩])
  (.ret))
  (.skip))))
  (.reg false [0, 1, 2, 6, 8] [⟨some 20, .mv (.t 8), none, 0, []⟩,
    ⟨some 21, .bin .add .num (.t 20) (.c (.int .i64 1)), none, 0, []⟩,
    ⟨some 8, .mv (.t 21), none, 0, []⟩]))
def burinref10_Back_l0 : Cd := .seq (.seq (.reg false [0, 6, 9, 10, 36] [⟨some 33, .mv (.t 10), none, 0, []⟩,
    ⟨some 34, .mv (.t 0), none, 0, []⟩,
    ⟨some 35, .len none (.t 34), none, 0, []⟩,
    ⟨some 36, .bin .lss .num (.t 33) (.t 35), none, 0, []⟩])
  (.cond (.t 36) (.skip)
  (.exit 2)))
  (.seq (.block 3 (.reg true [0, 6, 9, 10] [⟨some 39, .load (some 3) (.t 9), none, 0, []⟩,
    ⟨some 40, .mv (.t 0), none, 1, []⟩,
    ⟨some 41, .mv (.t 10), none, 2, []⟩,
    ⟨some 42, .iad none 5 (.t 40) (.t 41), none, 3, []⟩,
    ⟨some 43, .fad 0 (.t 42), none, 4, []⟩,
    ⟨some 44, .load none (.t 43), none, 5, []⟩,
    ⟨some 45, .mv (.t 0), none, 6, []⟩,
    ⟨some 46, .mv (.t 10), none, 7, []⟩,
    ⟨some 47, .iad none 5 (.t 45) (.t 46), none, 8, []⟩,
    ⟨some 48, .fad 1 (.t 47), none, 9, []⟩,
    ⟨some 49, .load none (.t 48), none, 10, []⟩,
    ⟨some 50, .mv (.t 0), none, 11, []⟩,
    ⟨some 51, .mv (.t 10), none, 12, []⟩,
    ⟨some 52, .iad none 5 (.t 50) (.t 51), none, 13, []⟩,
    ⟨some 53, .fad 2 (.t 52), none, 14, []⟩,
    ⟨some 54, .load (some 3) (.t 53), none, 15, []⟩,
    ⟨some 55, .call (.f 193) [(.t 39), (.t 44), (.t 49), (.c (.int .i64 0)), (.t 54)], none, 16, []⟩]))
  (.reg false [0, 6, 9, 10] [⟨some 37, .mv (.t 10), none, 0, []⟩,
    ⟨some 38, .bin .add .num (.t 37) (.c (.int .i64 1)), none, 0, []⟩,
    ⟨some 10, .mv (.t 38), none, 0, []⟩]))
/-- burin/burinref10.Back -/
def burinref10_Back : AFun := ⟨3, 57, true, [.cell 6 (some 3), .t 7],
  .seq (.reg false [0, 1, 2, 6] [⟨some 6, .alloc [.int .i64 0, .int .i64 0, .sl none 0 0 0], none, 0, []⟩,
    ⟨some 7, .mv (.c (.int .i64 0)), none, 0, []⟩])
  (.seq (.seq (.reg false [0, 1, 2, 6, 14] [⟨some 11, .mv (.t 1), none, 0, []⟩,
    ⟨some 12, .mv (.t 2), none, 0, []⟩,
    ⟨some 13, .call (.f 74) [(.t 11), (.t 12)], none, 0, []⟩,
    ⟨some 14, .un .not (.t 13), none, 0, []⟩])
  (.cond (.t 14) (.seq (.reg false [6, 7] [⟨some 15, .build [.int .i64 0, .int .i64 0, .sl none 0 0 0] [], none, 0, []⟩,
    ⟨none, .store 3 (.t 6) (.t 15), none, 0, []⟩,
    ⟨some 7, .mv (.c (.int .i64 90)), none, 0, []⟩])
  (.ret))
  (.skip)))
  (.seq (.seq (.reg false [0, 1, 2, 6, 8] [⟨some 8, .mv (.c (.int .i64 0)), none, 0, []⟩])
  (.block 0 (.loop [0, 1, 2, 6, 8] burinref10_Back_l1)))
  (.seq (.reg false [0, 6, 9] [⟨some 30, .mv (.t 1), none, 0, []⟩,
    ⟨some 31, .mv (.t 2), none, 0, []⟩,
    ⟨some 32, .call (.f 77) [(.t 30), (.t 31)], none, 0, []⟩,
    ⟨some 9, .alloc [.int .i64 0, .int .i64 0, .sl none 0 0 0], none, 0, []⟩,
    ⟨none, .store 3 (.t 9) (.t 32), none, 0, []⟩])
  (.seq (.seq (.reg false [0, 6, 9, 10] [⟨some 10, .mv (.c (.int .i64 0)), none, 0, []⟩])
  (.block 2 (.loop [0, 6, 9, 10] burinref10_Back_l0)))
  (.seq (.reg false [6, 7] [⟨some 56, .load (some 3) (.t 9), none, 0, []⟩,
    ⟨none, .store 3 (.t 6) (.t 56), none, 0, []⟩,
    ⟨some 7, .mv (.c (.int .i64 0)), none, 0, []⟩])
  (.ret))))))⟩

/-- A program that has them. -/
structure HasRfc (P : Prog) : Prop where
  h_burinref0_EqPieces : P 180 = some burinref0_EqPieces
  h_burinref0_CopyPieces : P 191 = some burinref0_CopyPieces
  h_burinref0_Lay : P 193 = some burinref0_Lay
  h_burinref10_Back : P 190 = some burinref10_Back

end Go.Ab
