/- The texts of functions of the given program, for the abstract machine: written by wip/tools/gen.py out of Lean's print of the translation. Conditions: none; definitions alone. -/
import Derived.Test.YtdkgdneiilnppaaK1
set_option linter.all false
namespace Go.Ab
-- burinlaw9_RunsRound: 125, parameters ?; loops burinlaw9_RunsRound_l0 [1 ?, 3 ?, 7 ?, 8 ?]; burinlaw9_RunsRound_l1 [1 ?, 3 ?, 7 ?, 8 ?, 9 ?]; burinlaw9_RunsRound_l2 [1 ?, 3 ?, 7 ?, 8 ?, 9 ?, 10 ?, 11 ?]

def burinlaw9_RunsRound_l2 : Cd := .seq (.seq (.reg false [1, 3, 7, 8, 9, 10, 11, 114] [⟨some 111, .mv (.t 11), none, 0, []⟩,
    ⟨some 112, .fad 1 (.t 10), none, 0, []⟩,
    ⟨some 113, .load none (.t 112), none, 0, []⟩,
    ⟨some 114, .bin .lss .num (.t 111) (.t 113), none, 0, []⟩])
  (.cond (.t 114) (.skip)
  (.exit 4)))
  (.seq (.block 5 (.seq (.reg false [1, 3, 7, 8, 9, 10, 11, 121] [⟨some 117, .load (some 3) (.t 1), none, 0, []⟩,
    ⟨some 118, .mv (.t 11), none, 0, []⟩,
    ⟨some 119, .mv (.t 8), none, 0, []⟩,
    ⟨some 120, .call (.f 78) [(.t 117), (.t 118), (.t 119)], none, 0, []⟩,
    ⟨some 121, .bin .eql .num (.t 120) (.c (.int .i64 0)), none, 0, []⟩])
  (.cond (.t 121) (.seq (.reg false [2] [⟨some 2, .mv (.c (.bool false)), none, 0, []⟩])
  (.ret))
  (.skip))))
  (.reg false [1, 3, 7, 8, 9, 10, 11] [⟨some 115, .mv (.t 11), none, 0, []⟩,
    ⟨some 116, .bin .add .num (.t 115) (.c (.int .i64 1)), none, 0, []⟩,
    ⟨some 11, .mv (.t 116), none, 0, []⟩]))
def burinlaw9_RunsRound_l1 : Cd := .seq (.seq (.reg false [1, 3, 7, 8, 9, 65] [⟨some 59, .mv (.t 9), none, 0, []⟩,
    ⟨some 60, .mv (.t 3), none, 0, []⟩,
    ⟨some 61, .mv (.t 8), none, 0, []⟩,
    ⟨some 62, .iad none 1 (.t 60) (.t 61), none, 0, []⟩,
    ⟨some 63, .load none (.t 62), none, 0, []⟩,
    ⟨some 64, .len none (.t 63), none, 0, []⟩,
    ⟨some 65, .bin .lss .num (.t 59) (.t 64), none, 0, []⟩])
  (.cond (.t 65) (.skip)
  (.exit 2)))
  (.seq (.block 3 (.seq (.reg false [1, 3, 7, 8, 9, 10] [⟨some 68, .mv (.t 3), none, 0, []⟩,
    ⟨some 69, .mv (.t 8), none, 0, []⟩,
    ⟨some 70, .iad none 1 (.t 68) (.t 69), none, 0, []⟩,
    ⟨some 71, .load none (.t 70), none, 0, []⟩,
    ⟨some 72, .mv (.t 9), none, 0, []⟩,
    ⟨some 73, .iad none 2 (.t 71) (.t 72), none, 0, []⟩,
    ⟨some 74, .load (some 2) (.t 73), none, 0, []⟩,
    ⟨some 10, .alloc [.int .i64 0, .int .i64 0], none, 0, []⟩,
    ⟨none, .store 2 (.t 10) (.t 74), none, 0, []⟩])
  (.seq (.seq (.reg false [1, 3, 7, 8, 9, 10, 108] [⟨some 75, .fad 0 (.t 10), none, 0, []⟩,
    ⟨some 76, .load none (.t 75), none, 0, []⟩,
    ⟨some 77, .bin .lss .num (.t 76) (.c (.int .i64 0)), none, 0, []⟩,
    ⟨some 78, .mv (.t 77), none, 0, []⟩,
    ⟨some 79, .fad 1 (.t 10), some (78, false), 0, []⟩,
    ⟨some 80, .load none (.t 79), some (78, false), 0, []⟩,
    ⟨some 81, .fad 0 (.t 1), some (78, false), 0, []⟩,
    ⟨some 82, .load none (.t 81), some (78, false), 0, []⟩,
    ⟨some 83, .bin .gtr .num (.t 80) (.t 82), some (78, false), 0, []⟩,
    ⟨some 84, .pick (.t 78) (.c (.bool true)) (.t 83), none, 0, []⟩,
    ⟨some 85, .mv (.t 84), none, 0, []⟩,
    ⟨some 86, .fad 0 (.t 10), some (85, false), 0, []⟩,
    ⟨some 87, .load none (.t 86), some (85, false), 0, []⟩,
    ⟨some 88, .fad 1 (.t 10), some (85, false), 0, []⟩,
    ⟨some 89, .load none (.t 88), some (85, false), 0, []⟩,
    ⟨some 90, .bin .geq .num (.t 87) (.t 89), some (85, false), 0, []⟩,
    ⟨some 91, .pick (.t 85) (.c (.bool true)) (.t 90), none, 0, []⟩,
    ⟨some 92, .mv (.t 91), none, 0, []⟩,
    ⟨some 93, .load (some 3) (.t 1), some (92, false), 0, []⟩,
    ⟨some 94, .fad 0 (.t 10), some (92, false), 0, []⟩,
    ⟨some 95, .load none (.t 94), some (92, false), 0, []⟩,
    ⟨some 96, .bin .sub .num (.t 95) (.c (.int .i64 1)), some (92, false), 0, []⟩,
    ⟨some 97, .mv (.t 8), some (92, false), 0, []⟩,
    ⟨some 98, .call (.f 78) [(.t 93), (.t 96), (.t 97)], some (92, false), 0, []⟩,
    ⟨some 99, .bin .eql .num (.t 98) (.c (.int .i64 1)), some (92, false), 0, []⟩,
    ⟨some 100, .pick (.t 92) (.c (.bool true)) (.t 99), none, 0, []⟩,
    ⟨some 101, .mv (.t 100), none, 0, []⟩,
    ⟨some 102, .load (some 3) (.t 1), some (101, false), 0, []⟩,
    ⟨some 103, .fad 1 (.t 10), some (101, false), 0, []⟩,
    ⟨some 104, .load none (.t 103), some (101, false), 0, []⟩,
    ⟨some 105, .mv (.t 8), some (101, false), 0, []⟩,
    ⟨some 106, .call (.f 78) [(.t 102), (.t 104), (.t 105)], some (101, false), 0, []⟩,
    ⟨some 107, .bin .eql .num (.t 106) (.c (.int .i64 1)), some (101, false), 0, []⟩,
    ⟨some 108, .pick (.t 101) (.c (.bool true)) (.t 107), none, 0, []⟩])
  (.cond (.t 108) (.seq (.reg false [2] [⟨some 2, .mv (.c (.bool false)), none, 0, []⟩])
  (.ret))
  (.skip)))
  (.seq (.seq (.reg false [1, 3, 7, 8, 9, 10, 11] [⟨some 109, .fad 0 (.t 10), none, 0, []⟩,
    ⟨some 110, .load none (.t 109), none, 0, []⟩,
    ⟨some 11, .mv (.t 110), none, 0, []⟩])
  (.block 4 (.loop [1, 3, 7, 8, 9, 10, 11] burinlaw9_RunsRound_l2)))
  (.reg false [1, 3, 7, 8, 9] [⟨some 122, .mv (.t 7), none, 0, []⟩,
    ⟨some 123, .fad 1 (.t 10), none, 0, []⟩,
    ⟨some 124, .load none (.t 123), none, 0, []⟩,
    ⟨some 125, .bin .add .num (.t 122) (.t 124), none, 0, []⟩,
    ⟨some 126, .fad 0 (.t 10), none, 0, []⟩,
    ⟨some 127, .load none (.t 126), none, 0, []⟩,
    ⟨some 128, .bin .sub .num (.t 125) (.t 127), none, 0, []⟩,
    ⟨some 7, .mv (.t 128), none, 0, []⟩])))))
  (.reg false [1, 3, 7, 8, 9] [⟨some 66, .mv (.t 9), none, 0, []⟩,
    ⟨some 67, .bin .add .num (.t 66) (.c (.int .i64 1)), none, 0, []⟩,
    ⟨some 9, .mv (.t 67), none, 0, []⟩]))
def burinlaw9_RunsRound_l0 : Cd := .seq (.seq (.reg false [1, 3, 7, 8, 56] [⟨some 53, .mv (.t 8), none, 0, []⟩,
    ⟨some 54, .mv (.t 3), none, 0, []⟩,
    ⟨some 55, .len none (.t 54), none, 0, []⟩,
    ⟨some 56, .bin .lss .num (.t 53) (.t 55), none, 0, []⟩])
  (.cond (.t 56) (.skip)
  (.exit 0)))
  (.seq (.block 1 (.seq (.reg false [1, 3, 7, 8, 9] [⟨some 9, .mv (.c (.int .i64 0)), none, 0, []⟩])
  (.block 2 (.loop [1, 3, 7, 8, 9] burinlaw9_RunsRound_l1))))
  (.reg false [1, 3, 7, 8] [⟨some 57, .mv (.t 8), none, 0, []⟩,
    ⟨some 58, .bin .add .num (.t 57) (.c (.int .i64 1)), none, 0, []⟩,
    ⟨some 8, .mv (.t 58), none, 0, []⟩]))
/-- burin/burinlaw9.RunsRound -/
def burinlaw9_RunsRound : AFun := ⟨1, 136, true, [.t 2],
  .seq (.reg false [1] [⟨some 1, .box 3 (.t 0), none, 0, []⟩,
    ⟨some 2, .mv (.c (.bool false)), none, 0, []⟩])
  (.seq (.seq (.reg false [1, 20] [⟨some 12, .load (some 3) (.t 1), none, 0, []⟩,
    ⟨some 13, .call (.f 76) [(.t 12)], none, 0, []⟩,
    ⟨some 14, .un .not (.t 13), none, 0, []⟩,
    ⟨some 15, .mv (.t 14), none, 0, []⟩,
    ⟨some 16, .load (some 3) (.t 1), some (15, false), 0, []⟩,
    ⟨some 17, .bslice 3 [.int .i64 0, .int .i64 0, .sl none 0 0 0] 1 [(0, (.t 16))], some (15, false), 0, []⟩,
    ⟨some 18, .call (.f 98) [(.t 17), (.c (.int .i64 60000))], some (15, false), 0, []⟩,
    ⟨some 19, .un .not (.t 18), some (15, false), 0, []⟩,
    ⟨some 20, .pick (.t 15) (.c (.bool true)) (.t 19), none, 0, []⟩])
  (.cond (.t 20) (.seq (.reg false [2] [⟨some 21, .call (.f 122) [], none, 0, []⟩,
    ⟨some 2, .mv (.t 21), none, 0, []⟩])
  (.ret))
  (.skip)))
  (.seq (.reg false [1, 3, 4] [⟨some 23, .load (some 3) (.t 1), none, 0, []⟩,
    ⟨some 24, .call (.f 115) [(.t 23)], none, 0, []⟩,
    ⟨some 22, .mv (.t 24), none, 0, []⟩,
    ⟨some 25, .ext 0 (.t 22), none, 0, []⟩,
    ⟨some 26, .ext 1 (.t 22), none, 0, []⟩,
    ⟨some 3, .mv (.t 25), none, 0, []⟩,
    ⟨some 4, .mv (.t 26), none, 0, []⟩])
  (.seq (.reg false [1, 3, 4, 5, 6] [⟨some 28, .mv (.t 3), none, 0, []⟩,
    ⟨some 29, .fad 0 (.t 1), none, 0, []⟩,
    ⟨some 30, .load none (.t 29), none, 0, []⟩,
    ⟨some 31, .call (.f 116) [(.t 28), (.t 30)], none, 0, []⟩,
    ⟨some 27, .mv (.t 31), none, 0, []⟩,
    ⟨some 32, .ext 0 (.t 27), none, 0, []⟩,
    ⟨some 33, .ext 1 (.t 27), none, 0, []⟩,
    ⟨some 5, .alloc [.int .i64 0, .int .i64 0, .sl none 0 0 0], none, 0, []⟩,
    ⟨none, .store 3 (.t 5) (.t 32), none, 0, []⟩,
    ⟨some 6, .mv (.t 33), none, 0, []⟩])
  (.seq (.seq (.reg false [1, 3, 52] [⟨some 34, .mv (.t 4), none, 0, []⟩,
    ⟨some 35, .bin .neq .num (.t 34) (.c (.int .i64 0)), none, 0, []⟩,
    ⟨some 36, .mv (.t 35), none, 0, []⟩,
    ⟨some 37, .mv (.t 6), some (36, false), 0, []⟩,
    ⟨some 38, .bin .neq .num (.t 37) (.c (.int .i64 0)), some (36, false), 0, []⟩,
    ⟨some 39, .pick (.t 36) (.c (.bool true)) (.t 38), none, 0, []⟩,
    ⟨some 40, .mv (.t 39), none, 0, []⟩,
    ⟨some 41, .load (some 3) (.t 1), some (40, false), 0, []⟩,
    ⟨some 42, .load (some 3) (.t 5), some (40, false), 0, []⟩,
    ⟨some 43, .call (.f 84) [(.t 41), (.t 42)], some (40, false), 0, []⟩,
    ⟨some 44, .un .not (.t 43), some (40, false), 0, []⟩,
    ⟨some 45, .pick (.t 40) (.c (.bool true)) (.t 44), none, 0, []⟩,
    ⟨some 46, .mv (.t 45), none, 0, []⟩,
    ⟨some 47, .mv (.t 3), some (46, false), 0, []⟩,
    ⟨some 48, .len none (.t 47), some (46, false), 0, []⟩,
    ⟨some 49, .fad 1 (.t 1), some (46, false), 0, []⟩,
    ⟨some 50, .load none (.t 49), some (46, false), 0, []⟩,
    ⟨some 51, .bin .neq .num (.t 48) (.t 50), some (46, false), 0, []⟩,
    ⟨some 52, .pick (.t 46) (.c (.bool true)) (.t 51), none, 0, []⟩])
  (.cond (.t 52) (.seq (.reg false [2] [⟨some 2, .mv (.c (.bool false)), none, 0, []⟩])
  (.ret))
  (.skip)))
  (.seq (.reg false [1, 3, 7] [⟨some 7, .mv (.c (.int .i64 0)), none, 0, []⟩])
  (.seq (.seq (.reg false [1, 3, 7, 8] [⟨some 8, .mv (.c (.int .i64 0)), none, 0, []⟩])
  (.block 0 (.loop [1, 3, 7, 8] burinlaw9_RunsRound_l0)))
  (.seq (.reg false [2] [⟨some 129, .mv (.t 7), none, 0, []⟩,
    ⟨some 130, .load (some 3) (.t 1), none, 0, []⟩,
    ⟨some 131, .call (.f 81) [(.t 130)], none, 0, []⟩,
    ⟨some 132, .bin .eql .num (.t 129) (.t 131), none, 0, []⟩,
    ⟨some 133, .mv (.t 132), none, 0, []⟩,
    ⟨some 134, .call (.f 122) [], some (133, true), 0, []⟩,
    ⟨some 135, .pick (.t 133) (.t 134) (.c (.bool false)), none, 0, []⟩,
    ⟨some 2, .mv (.t 135), none, 0, []⟩])
  (.ret))))))))⟩

/-- A program that has them. -/
structure HasL9Round (P : Prog) : Prop where
  h_burinlaw9_RunsRound : P 125 = some burinlaw9_RunsRound

end Go.Ab
