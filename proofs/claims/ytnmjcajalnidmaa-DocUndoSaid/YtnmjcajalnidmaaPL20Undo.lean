/- The texts of functions of the given program, for the abstract machine: written by wip/tools/gen.py out of Lean's print of the translation. Conditions: none; definitions alone. -/
import Derived.Test.YtnmjcajalnidmaaK1
set_option linter.all false
namespace Go.Ab
-- burinlaw20_pages: 148, parameters d; loops burinlaw20_pages_l0 [0 d, 3 l, 4 i]
-- burinlaw20_same: 149, parameters ? ?; loops burinlaw20_same_l0 [0 ?, 1 ?, 5 ?]
-- burinlaw20_DocUndo: 150, parameters ?; loops burinlaw20_DocUndo_l0 [3 ?, 4 ?, 10 ?]; burinlaw20_DocUndo_l1 [1 ?, 3 ?, 4 ?, 5 ?]

def burinlaw20_pages_l0 : Cd := .seq (.seq (.reg false [0, 3, 4, 14] [⟨some 7, .mv (.t 4), none, 0, []⟩,
    ⟨some 8, .mv (.t 0), none, 0, []⟩,
    ⟨some 9, .call (.f 134) [(.t 8)], none, 0, []⟩,
    ⟨some 10, .bin .lss .num (.t 7) (.t 9), none, 0, []⟩,
    ⟨some 11, .mv (.t 10), none, 0, []⟩,
    ⟨some 12, .mv (.t 4), some (11, true), 0, []⟩,
    ⟨some 13, .bin .lss .num (.t 12) (.c (.int .i64 100)), some (11, true), 0, []⟩,
    ⟨some 14, .pick (.t 11) (.t 13) (.c (.bool false)), none, 0, []⟩])
  (.cond (.t 14) (.skip)
  (.exit 0)))
  (.seq (.block 1 (.seq (.reg false [0, 3, 4, 5] [⟨some 18, .mv (.t 0), none, 0, []⟩,
    ⟨some 19, .mv (.t 4), none, 0, []⟩,
    ⟨some 20, .call (.f 135) [(.t 18), (.t 19)], none, 0, []⟩,
    ⟨some 17, .mv (.t 20), none, 0, []⟩,
    ⟨some 21, .ext 0 (.t 17), none, 0, []⟩,
    ⟨some 22, .ext 1 (.t 17), none, 0, []⟩,
    ⟨some 5, .alloc [.int .i64 0, .int .i64 0, .sl none 0 0 0], none, 0, []⟩,
    ⟨none, .store 3 (.t 5) (.t 21), none, 0, []⟩,
    ⟨some 6, .mv (.t 22), none, 0, []⟩])
  (.reg false [0, 3, 4] [⟨some 23, .mv (.t 3), none, 0, []⟩,
    ⟨some 24, .load (some 3) (.t 5), none, 0, []⟩,
    ⟨some 25, .bslice 3 [.int .i64 0, .int .i64 0, .sl none 0 0 0] 1 [(0, (.t 24))], none, 0, []⟩,
    ⟨some 26, .append 3 40 (.t 23) (.t 25), none, 0, []⟩,
    ⟨some 3, .mv (.t 26), none, 0, []⟩])))
  (.reg false [0, 3, 4] [⟨some 15, .mv (.t 4), none, 0, []⟩,
    ⟨some 16, .bin .add .num (.t 15) (.c (.int .i64 1)), none, 0, []⟩,
    ⟨some 4, .mv (.t 16), none, 0, []⟩]))
/-- burin/burinlaw20.pages -/
def burinlaw20_pages : AFun := ⟨1, 28, true, [.t 2],
  .seq (.reg false [0] [⟨some 2, .mv (.c (.sl none 0 0 0)), none, 0, []⟩])
  (.seq (.reg false [0, 3] [⟨some 3, .mv (.c (.sl none 0 0 0)), none, 0, []⟩])
  (.seq (.seq (.reg false [0, 3, 4] [⟨some 4, .mv (.c (.int .i64 0)), none, 0, []⟩])
  (.block 0 (.loop [0, 3, 4] burinlaw20_pages_l0)))
  (.seq (.reg false [2] [⟨some 27, .mv (.t 3), none, 0, []⟩,
    ⟨some 2, .mv (.t 27), none, 0, []⟩])
  (.ret))))⟩

def burinlaw20_same_l0 : Cd := .seq (.seq (.reg false [0, 1, 5, 24] [⟨some 21, .mv (.t 5), none, 0, []⟩,
    ⟨some 22, .mv (.t 1), none, 0, []⟩,
    ⟨some 23, .len none (.t 22), none, 0, []⟩,
    ⟨some 24, .bin .lss .num (.t 21) (.t 23), none, 0, []⟩])
  (.cond (.t 24) (.skip)
  (.exit 0)))
  (.seq (.block 1 (.seq (.reg false [0, 1, 5, 6, 7] [⟨some 28, .mv (.t 0), none, 0, []⟩,
    ⟨some 29, .mv (.t 5), none, 0, []⟩,
    ⟨some 30, .call (.f 135) [(.t 28), (.t 29)], none, 0, []⟩,
    ⟨some 27, .mv (.t 30), none, 0, []⟩,
    ⟨some 31, .ext 0 (.t 27), none, 0, []⟩,
    ⟨some 32, .ext 1 (.t 27), none, 0, []⟩,
    ⟨some 6, .alloc [.int .i64 0, .int .i64 0, .sl none 0 0 0], none, 0, []⟩,
    ⟨none, .store 3 (.t 6) (.t 31), none, 0, []⟩,
    ⟨some 7, .mv (.t 32), none, 0, []⟩])
  (.seq (.seq (.reg true [0, 1, 5, 6, 43] [⟨some 33, .mv (.t 7), none, 0, []⟩,
    ⟨some 34, .bin .neq .num (.t 33) (.c (.int .i64 0)), none, 1, []⟩,
    ⟨some 35, .mv (.t 34), none, 2, []⟩,
    ⟨some 36, .load (some 3) (.t 6), some (35, false), 3, []⟩,
    ⟨some 37, .mv (.t 1), some (35, false), 4, []⟩,
    ⟨some 38, .mv (.t 5), some (35, false), 5, []⟩,
    ⟨some 39, .iad none 3 (.t 37) (.t 38), some (35, false), 6, []⟩,
    ⟨some 40, .load (some 3) (.t 39), some (35, false), 7, []⟩,
    ⟨some 41, .call (.f 84) [(.t 36), (.t 40)], some (35, false), 8, []⟩,
    ⟨some 42, .un .not (.t 41), some (35, false), 9, []⟩,
    ⟨some 43, .pick (.t 35) (.c (.bool true)) (.t 42), none, 10, []⟩])
  (.cond (.t 43) (.seq (.reg false [4] [⟨some 4, .mv (.c (.bool false)), none, 0, []⟩])
  (.ret))
  (.skip)))
  (.reg false [0, 1, 5] [⟨some 44, .fad 2 (.t 6), none, 0, []⟩,
    ⟨some 45, .load none (.t 44), none, 0, []⟩,
    ⟨some 46, .call (.f 97) [(.t 45)], none, 0, []⟩]))))
  (.reg false [0, 1, 5] [⟨some 25, .mv (.t 5), none, 0, []⟩,
    ⟨some 26, .bin .add .num (.t 25) (.c (.int .i64 1)), none, 0, []⟩,
    ⟨some 5, .mv (.t 26), none, 0, []⟩]))
/-- burin/burinlaw20.same -/
def burinlaw20_same : AFun := ⟨2, 66, true, [.t 4],
  .seq (.reg false [0, 1] [⟨some 4, .mv (.c (.bool false)), none, 0, []⟩])
  (.seq (.seq (.reg false [0, 1, 20] [⟨some 12, .mv (.t 0), none, 0, []⟩,
    ⟨some 13, .bin .eql .ptr (.t 12) (.c (.ptr none)), none, 0, []⟩,
    ⟨some 14, .mv (.t 13), none, 0, []⟩,
    ⟨some 15, .mv (.t 0), some (14, false), 0, []⟩,
    ⟨some 16, .call (.f 134) [(.t 15)], some (14, false), 0, []⟩,
    ⟨some 17, .mv (.t 1), some (14, false), 0, []⟩,
    ⟨some 18, .len none (.t 17), some (14, false), 0, []⟩,
    ⟨some 19, .bin .neq .num (.t 16) (.t 18), some (14, false), 0, []⟩,
    ⟨some 20, .pick (.t 14) (.c (.bool true)) (.t 19), none, 0, []⟩])
  (.cond (.t 20) (.seq (.reg false [4] [⟨some 4, .mv (.c (.bool false)), none, 0, []⟩])
  (.ret))
  (.skip)))
  (.seq (.seq (.reg false [0, 1, 5] [⟨some 5, .mv (.c (.int .i64 0)), none, 0, []⟩])
  (.block 0 (.loop [0, 1, 5] burinlaw20_same_l0)))
  (.seq (.reg false [0, 9] [⟨some 48, .mv (.t 0), none, 0, []⟩,
    ⟨some 49, .mv (.t 1), none, 0, []⟩,
    ⟨some 50, .len none (.t 49), none, 0, []⟩,
    ⟨some 51, .call (.f 135) [(.t 48), (.t 50)], none, 0, []⟩,
    ⟨some 47, .mv (.t 51), none, 0, []⟩,
    ⟨some 52, .ext 0 (.t 47), none, 0, []⟩,
    ⟨some 53, .ext 1 (.t 47), none, 0, []⟩,
    ⟨some 8, .alloc [.int .i64 0, .int .i64 0, .sl none 0 0 0], none, 0, []⟩,
    ⟨none, .store 3 (.t 8) (.t 52), none, 0, []⟩,
    ⟨some 9, .mv (.t 53), none, 0, []⟩])
  (.seq (.reg false [9, 11] [⟨some 55, .mv (.t 0), none, 0, []⟩,
    ⟨some 56, .call (.f 135) [(.t 55), (.c (.int .i64 (-1)))], none, 0, []⟩,
    ⟨some 54, .mv (.t 56), none, 0, []⟩,
    ⟨some 57, .ext 0 (.t 54), none, 0, []⟩,
    ⟨some 58, .ext 1 (.t 54), none, 0, []⟩,
    ⟨some 10, .alloc [.int .i64 0, .int .i64 0, .sl none 0 0 0], none, 0, []⟩,
    ⟨none, .store 3 (.t 10) (.t 57), none, 0, []⟩,
    ⟨some 11, .mv (.t 58), none, 0, []⟩])
  (.seq (.reg false [4] [⟨some 59, .mv (.t 9), none, 0, []⟩,
    ⟨some 60, .bin .eql .num (.t 59) (.c (.int .i64 182)), none, 0, []⟩,
    ⟨some 61, .mv (.t 60), none, 0, []⟩,
    ⟨some 62, .mv (.t 11), some (61, true), 0, []⟩,
    ⟨some 63, .mv (.t 9), some (61, true), 0, []⟩,
    ⟨some 64, .bin .eql .num (.t 62) (.t 63), some (61, true), 0, []⟩,
    ⟨some 65, .pick (.t 61) (.t 64) (.c (.bool false)), none, 0, []⟩,
    ⟨some 4, .mv (.t 65), none, 0, []⟩])
  (.ret))))))⟩

def burinlaw20_DocUndo_l1 : Cd := .seq (.seq (.reg false [1, 3, 4, 5, 22] [⟨some 14, .mv (.t 5), none, 0, []⟩,
    ⟨some 15, .fad 0 (.t 1), none, 0, []⟩,
    ⟨some 16, .load none (.t 15), none, 0, []⟩,
    ⟨some 17, .len none (.t 16), none, 0, []⟩,
    ⟨some 18, .bin .lss .num (.t 14) (.t 17), none, 0, []⟩,
    ⟨some 19, .mv (.t 18), none, 0, []⟩,
    ⟨some 20, .mv (.t 5), some (19, true), 0, []⟩,
    ⟨some 21, .bin .lss .num (.t 20) (.c (.int .i64 90)), some (19, true), 0, []⟩,
    ⟨some 22, .pick (.t 19) (.t 21) (.c (.bool false)), none, 0, []⟩])
  (.cond (.t 22) (.skip)
  (.exit 0)))
  (.seq (.block 1 (.seq (.reg false [1, 3, 4, 5, 6] [⟨some 25, .fad 0 (.t 1), none, 0, []⟩,
    ⟨some 26, .load none (.t 25), none, 0, []⟩,
    ⟨some 27, .mv (.t 5), none, 0, []⟩,
    ⟨some 28, .iad none 17 (.t 26) (.t 27), none, 0, []⟩,
    ⟨some 29, .load (some 17) (.t 28), none, 0, []⟩,
    ⟨some 6, .alloc [.int .i64 0, .int .i64 0, .int .i64 0, .int .i64 0, .int .i64 0, .int .i64 0, .int .i64 0, .int .i64 0, .int .i64 0, .int .i64 0, .int .i64 0, .int .i64 0, .int .i64 0, .int .i64 0, .flt .f64 0, .bool false, .int .u64 0], none, 0, []⟩,
    ⟨none, .store 17 (.t 6) (.t 29), none, 0, []⟩])
  (.seq (.reg false [1, 3, 4, 5, 6, 7] [⟨some 30, .fad 1 (.t 6), none, 0, []⟩,
    ⟨some 31, .load (some 9) (.t 30), none, 0, []⟩,
    ⟨some 7, .alloc [.int .i64 0, .int .i64 0, .int .i64 0, .int .i64 0, .int .i64 0, .int .i64 0, .int .i64 0, .int .i64 0, .int .i64 0], none, 0, []⟩,
    ⟨none, .store 9 (.t 7) (.t 31), none, 0, []⟩])
  (.seq (.reg false [1, 3, 4, 5, 6, 7, 8] [⟨some 32, .mv (.t 3), none, 0, []⟩,
    ⟨some 33, .call (.f 148) [(.t 32)], none, 0, []⟩,
    ⟨some 8, .mv (.t 33), none, 0, []⟩])
  (.seq (.seq (.reg false [1, 3, 4, 5, 6, 7, 8, 55] [⟨some 34, .fad 0 (.t 6), none, 0, []⟩,
    ⟨some 35, .load none (.t 34), none, 0, []⟩,
    ⟨some 36, .bin .eql .num (.t 35) (.c (.int .i64 0)), none, 0, []⟩,
    ⟨some 37, .mv (.t 36), none, 0, []⟩,
    ⟨some 38, .iad (some 9) 1 (.t 7) (.c (.int .i64 0)), some (37, true), 0, []⟩,
    ⟨some 39, .load none (.t 38), some (37, true), 0, []⟩,
    ⟨some 40, .iad (some 9) 1 (.t 7) (.c (.int .i64 1)), some (37, true), 0, []⟩,
    ⟨some 41, .load none (.t 40), some (37, true), 0, []⟩,
    ⟨some 42, .call (.f 74) [(.t 39), (.t 41)], some (37, true), 0, []⟩,
    ⟨some 43, .pick (.t 37) (.t 42) (.c (.bool false)), none, 0, []⟩,
    ⟨some 44, .mv (.t 43), none, 0, []⟩,
    ⟨some 45, .iad (some 9) 1 (.t 7) (.c (.int .i64 0)), some (44, true), 0, []⟩,
    ⟨some 46, .load none (.t 45), some (44, true), 0, []⟩,
    ⟨some 47, .iad (some 9) 1 (.t 7) (.c (.int .i64 1)), some (44, true), 0, []⟩,
    ⟨some 48, .load none (.t 47), some (44, true), 0, []⟩,
    ⟨some 49, .bin .mul .num (.t 46) (.t 48), some (44, true), 0, []⟩,
    ⟨some 50, .iad (some 9) 1 (.t 7) (.c (.int .i64 1)), some (44, true), 0, []⟩,
    ⟨some 51, .load none (.t 50), some (44, true), 0, []⟩,
    ⟨some 52, .bin .mul .num (.c (.int .i64 64)) (.t 51), some (44, true), 0, []⟩,
    ⟨some 53, .bin .add .num (.t 49) (.t 52), some (44, true), 0, []⟩,
    ⟨some 54, .bin .gtr .num (.t 53) (.c (.int .i64 6000)), some (44, true), 0, []⟩,
    ⟨some 55, .pick (.t 44) (.t 54) (.c (.bool false)), none, 0, []⟩])
  (.cond (.t 55) (.exit 1)
  (.skip)))
  (.seq (.reg false [1, 3, 4, 5, 6, 7, 8, 9] [⟨some 9, .mv (.c (.int .i64 181)), none, 0, []⟩])
  (.seq (.seq (.reg false [1, 3, 4, 5, 7, 8, 9, 57] [⟨some 56, .fad 0 (.t 6), none, 0, []⟩,
    ⟨some 57, .load none (.t 56), none, 0, []⟩])
  (.block 2 (.seq (.reg false [1, 3, 4, 5, 7, 8, 9, 57, 78] [⟨some 79, .bin .eql .num (.t 57) (.c (.int .i64 0)), none, 0, []⟩,
    ⟨some 78, .mv (.t 79), none, 0, []⟩])
  (.cond (.t 78) (.seq (.reg false [1, 3, 4, 5, 7, 8, 9, 82] [⟨some 80, .mv (.t 3), none, 0, []⟩,
    ⟨some 81, .call (.f 134) [(.t 80)], none, 0, []⟩,
    ⟨some 82, .bin .lss .num (.t 81) (.c (.int .i64 6)), none, 0, []⟩])
  (.cond (.t 82) (.reg false [1, 3, 4, 5, 8, 9] [⟨some 84, .mv (.t 3), none, 0, []⟩,
    ⟨some 85, .iad (some 9) 1 (.t 7) (.c (.int .i64 0)), none, 0, []⟩,
    ⟨some 86, .load none (.t 85), none, 0, []⟩,
    ⟨some 87, .iad (some 9) 1 (.t 7) (.c (.int .i64 1)), none, 0, []⟩,
    ⟨some 88, .load none (.t 87), none, 0, []⟩,
    ⟨some 89, .call (.f 133) [(.t 84), (.t 86), (.t 88)], none, 0, []⟩,
    ⟨some 83, .mv (.t 89), none, 0, []⟩,
    ⟨some 90, .ext 0 (.t 83), none, 0, []⟩,
    ⟨some 91, .ext 1 (.t 83), none, 0, []⟩,
    ⟨some 9, .mv (.t 91), none, 0, []⟩])
  (.skip)))
  (.seq (.reg false [1, 3, 4, 5, 7, 8, 57, 92] [⟨some 93, .bin .eql .num (.t 57) (.c (.int .i64 1)), none, 0, []⟩,
    ⟨some 92, .mv (.t 93), none, 0, []⟩])
  (.cond (.t 92) (.reg false [1, 3, 4, 5, 8, 9] [⟨some 94, .mv (.t 3), none, 0, []⟩,
    ⟨some 95, .iad (some 9) 1 (.t 7) (.c (.int .i64 0)), none, 0, []⟩,
    ⟨some 96, .load none (.t 95), none, 0, []⟩,
    ⟨some 97, .iad (some 9) 1 (.t 7) (.c (.int .i64 1)), none, 0, []⟩,
    ⟨some 98, .load none (.t 97), none, 0, []⟩,
    ⟨some 99, .iad (some 9) 1 (.t 7) (.c (.int .i64 2)), none, 0, []⟩,
    ⟨some 100, .load none (.t 99), none, 0, []⟩,
    ⟨some 101, .iad (some 9) 1 (.t 7) (.c (.int .i64 3)), none, 0, []⟩,
    ⟨some 102, .load none (.t 101), none, 0, []⟩,
    ⟨some 103, .call (.f 140) [(.t 94), (.t 96), (.t 98), (.t 100), (.t 102)], none, 0, []⟩,
    ⟨some 9, .mv (.t 103), none, 0, []⟩])
  (.seq (.reg false [1, 3, 4, 5, 7, 8, 104] [⟨some 105, .bin .eql .num (.t 57) (.c (.int .i64 2)), none, 0, []⟩,
    ⟨some 104, .mv (.t 105), none, 0, []⟩])
  (.cond (.t 104) (.reg false [1, 3, 4, 5, 8, 9] [⟨some 106, .mv (.t 3), none, 0, []⟩,
    ⟨some 107, .iad (some 9) 1 (.t 7) (.c (.int .i64 0)), none, 0, []⟩,
    ⟨some 108, .load none (.t 107), none, 0, []⟩,
    ⟨some 109, .iad (some 9) 1 (.t 7) (.c (.int .i64 1)), none, 0, []⟩,
    ⟨some 110, .load none (.t 109), none, 0, []⟩,
    ⟨some 111, .iad (some 9) 1 (.t 7) (.c (.int .i64 2)), none, 0, []⟩,
    ⟨some 112, .load none (.t 111), none, 0, []⟩,
    ⟨some 113, .iad (some 9) 1 (.t 7) (.c (.int .i64 3)), none, 0, []⟩,
    ⟨some 114, .load none (.t 113), none, 0, []⟩,
    ⟨some 115, .iad (some 9) 1 (.t 7) (.c (.int .i64 4)), none, 0, []⟩,
    ⟨some 116, .load none (.t 115), none, 0, []⟩,
    ⟨some 117, .iad (some 9) 1 (.t 7) (.c (.int .i64 5)), none, 0, []⟩,
    ⟨some 118, .load none (.t 117), none, 0, []⟩,
    ⟨some 119, .call (.f 142) [(.t 106), (.t 108), (.t 110), (.t 112), (.t 114), (.t 116), (.t 118)], none, 0, []⟩,
    ⟨some 9, .mv (.t 119), none, 0, []⟩])
  (.reg false [1, 3, 4, 5, 8, 9] [⟨some 58, .mv (.t 3), none, 0, []⟩,
    ⟨some 59, .iad (some 9) 1 (.t 7) (.c (.int .i64 0)), none, 0, []⟩,
    ⟨some 60, .load none (.t 59), none, 0, []⟩,
    ⟨some 61, .iad (some 9) 1 (.t 7) (.c (.int .i64 1)), none, 0, []⟩,
    ⟨some 62, .load none (.t 61), none, 0, []⟩,
    ⟨some 63, .iad (some 9) 1 (.t 7) (.c (.int .i64 2)), none, 0, []⟩,
    ⟨some 64, .load none (.t 63), none, 0, []⟩,
    ⟨some 65, .iad (some 9) 1 (.t 7) (.c (.int .i64 3)), none, 0, []⟩,
    ⟨some 66, .load none (.t 65), none, 0, []⟩,
    ⟨some 67, .iad (some 9) 1 (.t 7) (.c (.int .i64 4)), none, 0, []⟩,
    ⟨some 68, .load none (.t 67), none, 0, []⟩,
    ⟨some 69, .iad (some 9) 1 (.t 7) (.c (.int .i64 5)), none, 0, []⟩,
    ⟨some 70, .load none (.t 69), none, 0, []⟩,
    ⟨some 71, .iad (some 9) 1 (.t 7) (.c (.int .i64 6)), none, 0, []⟩,
    ⟨some 72, .load none (.t 71), none, 0, []⟩,
    ⟨some 73, .iad (some 9) 1 (.t 7) (.c (.int .i64 7)), none, 0, []⟩,
    ⟨some 74, .load none (.t 73), none, 0, []⟩,
    ⟨some 75, .iad (some 9) 1 (.t 7) (.c (.int .i64 8)), none, 0, []⟩,
    ⟨some 76, .load none (.t 75), none, 0, []⟩,
    ⟨some 77, .call (.f 144) [(.t 58), (.t 60), (.t 62), (.t 64), (.t 66), (.t 68), (.t 70), (.t 72), (.t 74), (.t 76)], none, 0, []⟩,
    ⟨some 9, .mv (.t 77), none, 0, []⟩])))))))))
  (.seq (.reg false [1, 3, 4, 5, 8, 121] [⟨some 120, .mv (.t 9), none, 0, []⟩,
    ⟨some 121, .bin .eql .num (.t 120) (.c (.int .i64 0)), none, 0, []⟩])
  (.cond (.t 121) (.reg false [1, 3, 4, 5] [⟨some 122, .mv (.t 4), none, 0, []⟩,
    ⟨some 123, .mv (.t 8), none, 0, []⟩,
    ⟨some 124, .bslice 1 [.sl none 0 0 0] 1 [(0, (.t 123))], none, 0, []⟩,
    ⟨some 125, .append 1 24 (.t 122) (.t 124), none, 0, []⟩,
    ⟨some 4, .mv (.t 125), none, 0, []⟩])
  (.seq (.reg false [1, 3, 4, 5, 129] [⟨some 126, .mv (.t 3), none, 0, []⟩,
    ⟨some 127, .mv (.t 8), none, 0, []⟩,
    ⟨some 128, .call (.f 149) [(.t 126), (.t 127)], none, 0, []⟩,
    ⟨some 129, .un .not (.t 128), none, 0, []⟩])
  (.cond (.t 129) (.seq (.reg false [2] [⟨some 2, .mv (.c (.bool false)), none, 0, []⟩])
  (.ret))
  (.skip))))))))))))
  (.reg false [1, 3, 4, 5] [⟨some 23, .mv (.t 5), none, 0, []⟩,
    ⟨some 24, .bin .add .num (.t 23) (.c (.int .i64 1)), none, 0, []⟩,
    ⟨some 5, .mv (.t 24), none, 0, []⟩]))
def burinlaw20_DocUndo_l0 : Cd := .seq (.seq (.reg false [3, 4, 10, 136] [⟨some 130, .mv (.t 10), none, 0, []⟩,
    ⟨some 131, .bin .lss .num (.t 130) (.c (.int .i64 64)), none, 0, []⟩,
    ⟨some 132, .mv (.t 131), none, 0, []⟩,
    ⟨some 133, .mv (.t 4), some (132, true), 0, []⟩,
    ⟨some 134, .len none (.t 133), some (132, true), 0, []⟩,
    ⟨some 135, .bin .gtr .num (.t 134) (.c (.int .i64 0)), some (132, true), 0, []⟩,
    ⟨some 136, .pick (.t 132) (.t 135) (.c (.bool false)), none, 0, []⟩])
  (.cond (.t 136) (.skip)
  (.exit 3)))
  (.seq (.block 4 (.seq (.seq (.reg false [3, 4, 10, 152] [⟨some 139, .mv (.t 3), none, 0, []⟩,
    ⟨some 140, .call (.f 145) [(.t 139)], none, 0, []⟩,
    ⟨some 141, .un .not (.t 140), none, 0, []⟩,
    ⟨some 142, .mv (.t 141), none, 0, []⟩,
    ⟨some 143, .mv (.t 3), some (142, false), 0, []⟩,
    ⟨some 144, .mv (.t 4), some (142, false), 0, []⟩,
    ⟨some 145, .mv (.t 4), some (142, false), 0, []⟩,
    ⟨some 146, .len none (.t 145), some (142, false), 0, []⟩,
    ⟨some 147, .bin .sub .num (.t 146) (.c (.int .i64 1)), some (142, false), 0, []⟩,
    ⟨some 148, .iad none 1 (.t 144) (.t 147), some (142, false), 0, []⟩,
    ⟨some 149, .load none (.t 148), some (142, false), 0, []⟩,
    ⟨some 150, .call (.f 149) [(.t 143), (.t 149)], some (142, false), 0, []⟩,
    ⟨some 151, .un .not (.t 150), some (142, false), 0, []⟩,
    ⟨some 152, .pick (.t 142) (.c (.bool true)) (.t 151), none, 0, []⟩])
  (.cond (.t 152) (.seq (.reg false [2] [⟨some 2, .mv (.c (.bool false)), none, 0, []⟩])
  (.ret))
  (.skip)))
  (.reg false [3, 4, 10] [⟨some 153, .mv (.t 4), none, 0, []⟩,
    ⟨some 154, .mv (.t 4), none, 0, []⟩,
    ⟨some 155, .len none (.t 154), none, 0, []⟩,
    ⟨some 156, .bin .sub .num (.t 155) (.c (.int .i64 1)), none, 0, []⟩,
    ⟨some 157, .slice 1 (.t 153) none (some (.t 156)) none, none, 0, []⟩,
    ⟨some 4, .mv (.t 157), none, 0, []⟩])))
  (.reg false [3, 4, 10] [⟨some 137, .mv (.t 10), none, 0, []⟩,
    ⟨some 138, .bin .add .num (.t 137) (.c (.int .i64 1)), none, 0, []⟩,
    ⟨some 10, .mv (.t 138), none, 0, []⟩]))
/-- burin/burinlaw20.DocUndo -/
def burinlaw20_DocUndo : AFun := ⟨1, 164, true, [.t 2],
  .seq (.reg false [1] [⟨some 1, .box 1 (.t 0), none, 0, []⟩,
    ⟨some 2, .mv (.c (.bool false)), none, 0, []⟩])
  (.seq (.reg false [1, 3] [⟨some 11, .call (.f 128) [], none, 0, []⟩,
    ⟨some 3, .mv (.t 11), none, 0, []⟩])
  (.seq (.seq (.reg false [1, 3, 13] [⟨some 12, .mv (.t 3), none, 0, []⟩,
    ⟨some 13, .bin .eql .ptr (.t 12) (.c (.ptr none)), none, 0, []⟩])
  (.cond (.t 13) (.seq (.reg false [2] [⟨some 2, .mv (.c (.bool false)), none, 0, []⟩])
  (.ret))
  (.skip)))
  (.seq (.reg false [1, 3, 4] [⟨some 4, .mv (.c (.sl none 0 0 0)), none, 0, []⟩])
  (.seq (.seq (.reg false [1, 3, 4, 5] [⟨some 5, .mv (.c (.int .i64 0)), none, 0, []⟩])
  (.block 0 (.loop [1, 3, 4, 5] burinlaw20_DocUndo_l1)))
  (.seq (.seq (.reg false [3, 4, 10] [⟨some 10, .mv (.c (.int .i64 0)), none, 0, []⟩])
  (.block 3 (.loop [3, 4, 10] burinlaw20_DocUndo_l0)))
  (.seq (.reg false [2] [⟨some 158, .mv (.t 3), none, 0, []⟩,
    ⟨some 159, .call (.f 145) [(.t 158)], none, 0, []⟩,
    ⟨some 160, .un .not (.t 159), none, 0, []⟩,
    ⟨some 161, .mv (.t 160), none, 0, []⟩,
    ⟨some 162, .call (.f 146) [], some (161, true), 0, []⟩,
    ⟨some 163, .pick (.t 161) (.t 162) (.c (.bool false)), none, 0, []⟩,
    ⟨some 2, .mv (.t 163), none, 0, []⟩])
  (.ret)))))))⟩

/-- A program that has them. -/
structure HasL20Undo (P : Prog) : Prop where
  h_burinlaw20_pages : P 148 = some burinlaw20_pages
  h_burinlaw20_same : P 149 = some burinlaw20_same
  h_burinlaw20_DocUndo : P 150 = some burinlaw20_DocUndo

end Go.Ab
