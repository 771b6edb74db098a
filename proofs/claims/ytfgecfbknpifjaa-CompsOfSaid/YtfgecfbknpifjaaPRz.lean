/- The texts of functions of the given program, for the abstract machine: written by wip/tools/gen.py out of Lean's print of the translation. Conditions: none; definitions alone. -/
import Derived.Test.YtfgecfbknpifjaaK1
set_option linter.all false
namespace Go.Ab
-- burinref0_Size: 74, parameters w h; loops 
-- burinref0_words: 75, parameters w; loops 
-- burinref0_May: 76, parameters b; loops burinref0_May_l0 [1 b, 3 y]
-- burinref0_White: 77, parameters w h; loops 
-- burinref0_Get: 78, parameters b x y; loops 
-- burinref0_Put: 79, parameters b x y bit; loops 
-- burinref0_Do: 80, parameters op d s; loops 
-- burinref0_Count: 81, parameters b; loops burinref0_Count_l0 [1 b, 3 n, 4 y]; burinref0_Count_l1 [1 b, 3 n, 4 y, 5 x]
-- burinref0_CopyBitmap: 82, parameters b; loops 
-- burinref0_EqBitmap: 84, parameters a b; loops 
-- burinref0_EqWords: 83, parameters a b; loops burinref0_EqWords_l0 [0 a, 1 b, 5 i]

/-- burin/burinref0.Size -/
def burinref0_Size : AFun := ⟨2, 21, true, [.t 4],
  .seq (.reg false [0, 1] [⟨some 4, .mv (.c (.bool false)), none, 0, []⟩])
  (.seq (.reg false [4] [⟨some 5, .mv (.t 0), none, 0, []⟩,
    ⟨some 6, .bin .geq .num (.t 5) (.c (.int .i64 1)), none, 0, []⟩,
    ⟨some 7, .mv (.t 6), none, 0, []⟩,
    ⟨some 8, .mv (.t 1), some (7, true), 0, []⟩,
    ⟨some 9, .bin .geq .num (.t 8) (.c (.int .i64 1)), some (7, true), 0, []⟩,
    ⟨some 10, .pick (.t 7) (.t 9) (.c (.bool false)), none, 0, []⟩,
    ⟨some 11, .mv (.t 10), none, 0, []⟩,
    ⟨some 12, .mv (.t 0), some (11, true), 0, []⟩,
    ⟨some 13, .bin .leq .num (.t 12) (.c (.int .i64 1048576)), some (11, true), 0, []⟩,
    ⟨some 14, .pick (.t 11) (.t 13) (.c (.bool false)), none, 0, []⟩,
    ⟨some 15, .mv (.t 14), none, 0, []⟩,
    ⟨some 16, .mv (.t 1), some (15, true), 0, []⟩,
    ⟨some 17, .mv (.t 0), some (15, true), 0, []⟩,
    ⟨some 18, .bin .quo .num (.c (.int .i64 1048576)) (.t 17), some (15, true), 0, []⟩,
    ⟨some 19, .bin .leq .num (.t 16) (.t 18), some (15, true), 0, []⟩,
    ⟨some 20, .pick (.t 15) (.t 19) (.c (.bool false)), none, 0, []⟩,
    ⟨some 4, .mv (.t 20), none, 0, []⟩])
  (.ret))⟩

/-- burin/burinref0.words -/
def burinref0_words : AFun := ⟨1, 6, true, [.t 2],
  .seq (.reg false [0] [⟨some 2, .mv (.c (.int .i64 0)), none, 0, []⟩])
  (.seq (.reg false [2] [⟨some 3, .mv (.t 0), none, 0, []⟩,
    ⟨some 4, .bin .add .num (.t 3) (.c (.int .i64 63)), none, 0, []⟩,
    ⟨some 5, .bin .quo .num (.t 4) (.c (.int .i64 64)), none, 0, []⟩,
    ⟨some 2, .mv (.t 5), none, 0, []⟩])
  (.ret))⟩

def burinref0_May_l0 : Cd := .seq (.seq (.reg false [1, 3, 29] [⟨some 26, .mv (.t 3), none, 0, []⟩,
    ⟨some 27, .fad 1 (.t 1), none, 0, []⟩,
    ⟨some 28, .load none (.t 27), none, 0, []⟩,
    ⟨some 29, .bin .lss .num (.t 26) (.t 28), none, 0, []⟩])
  (.cond (.t 29) (.skip)
  (.exit 0)))
  (.seq (.block 1 (.seq (.reg true [1, 3, 48] [⟨some 32, .fad 2 (.t 1), none, 0, []⟩,
    ⟨some 33, .load none (.t 32), none, 1, []⟩,
    ⟨some 34, .mv (.t 3), none, 2, []⟩,
    ⟨some 35, .bin .add .num (.t 34) (.c (.int .i64 1)), none, 3, []⟩,
    ⟨some 36, .fad 0 (.t 1), none, 4, []⟩,
    ⟨some 37, .load none (.t 36), none, 5, []⟩,
    ⟨some 43, .fad 0 (.t 1), none, 11, []⟩,
    ⟨some 44, .load none (.t 43), none, 12, []⟩,
    ⟨some 45, .bin .rem .num (.t 44) (.c (.int .i64 64)), none, 13, []⟩,
    ⟨some 46, .conv .u64 (.t 45), none, 14, []⟩,
    ⟨some 38, .call (.f 75) [(.t 37)], none, 6, [1, 12]⟩,
    ⟨some 39, .bin .mul .num (.t 35) (.t 38), none, 7, []⟩,
    ⟨some 40, .bin .sub .num (.t 39) (.c (.int .i64 1)), none, 8, []⟩,
    ⟨some 41, .iad none 1 (.t 33) (.t 40), none, 9, []⟩,
    ⟨some 42, .load none (.t 41), none, 10, []⟩,
    ⟨some 47, .bin .shl .num (.t 42) (.t 46), none, 15, []⟩,
    ⟨some 48, .bin .neq .num (.t 47) (.c (.int .u64 0)), none, 16, []⟩])
  (.cond (.t 48) (.seq (.reg false [2] [⟨some 2, .mv (.c (.bool false)), none, 0, []⟩])
  (.ret))
  (.skip))))
  (.reg false [1, 3] [⟨some 30, .mv (.t 3), none, 0, []⟩,
    ⟨some 31, .bin .add .num (.t 30) (.c (.int .i64 1)), none, 0, []⟩,
    ⟨some 3, .mv (.t 31), none, 0, []⟩]))
/-- burin/burinref0.May -/
def burinref0_May : AFun := ⟨1, 49, true, [.t 2],
  .seq (.reg false [1] [⟨some 1, .box 3 (.t 0), none, 0, []⟩,
    ⟨some 2, .mv (.c (.bool false)), none, 0, []⟩])
  (.seq (.seq (.reg true [1, 21] [⟨some 4, .fad 0 (.t 1), none, 0, []⟩,
    ⟨some 5, .load none (.t 4), none, 1, []⟩,
    ⟨some 6, .fad 1 (.t 1), none, 2, []⟩,
    ⟨some 7, .load none (.t 6), none, 3, []⟩,
    ⟨some 8, .call (.f 74) [(.t 5), (.t 7)], none, 4, []⟩,
    ⟨some 9, .un .not (.t 8), none, 5, []⟩,
    ⟨some 10, .mv (.t 9), none, 6, []⟩,
    ⟨some 11, .fad 2 (.t 1), some (10, false), 7, []⟩,
    ⟨some 12, .load none (.t 11), some (10, false), 8, []⟩,
    ⟨some 13, .len none (.t 12), some (10, false), 9, []⟩,
    ⟨some 14, .fad 1 (.t 1), some (10, false), 10, []⟩,
    ⟨some 15, .load none (.t 14), some (10, false), 11, []⟩,
    ⟨some 16, .fad 0 (.t 1), some (10, false), 12, []⟩,
    ⟨some 17, .load none (.t 16), some (10, false), 13, []⟩,
    ⟨some 18, .call (.f 75) [(.t 17)], some (10, false), 14, [8, 11]⟩,
    ⟨some 19, .bin .mul .num (.t 15) (.t 18), some (10, false), 15, []⟩,
    ⟨some 20, .bin .neq .num (.t 13) (.t 19), some (10, false), 16, []⟩,
    ⟨some 21, .pick (.t 10) (.c (.bool true)) (.t 20), none, 17, []⟩])
  (.cond (.t 21) (.seq (.reg false [2] [⟨some 2, .mv (.c (.bool false)), none, 0, []⟩])
  (.ret))
  (.skip)))
  (.seq (.seq (.reg false [1, 25] [⟨some 22, .fad 0 (.t 1), none, 0, []⟩,
    ⟨some 23, .load none (.t 22), none, 0, []⟩,
    ⟨some 24, .bin .rem .num (.t 23) (.c (.int .i64 64)), none, 0, []⟩,
    ⟨some 25, .bin .eql .num (.t 24) (.c (.int .i64 0)), none, 0, []⟩])
  (.cond (.t 25) (.seq (.reg false [2] [⟨some 2, .mv (.c (.bool true)), none, 0, []⟩])
  (.ret))
  (.skip)))
  (.seq (.seq (.reg false [1, 3] [⟨some 3, .mv (.c (.int .i64 0)), none, 0, []⟩])
  (.block 0 (.loop [1, 3] burinref0_May_l0)))
  (.seq (.reg false [2] [⟨some 2, .mv (.c (.bool true)), none, 0, []⟩])
  (.ret)))))⟩

/-- burin/burinref0.White -/
def burinref0_White : AFun := ⟨2, 13, true, [.cell 4 (some 3)],
  .seq (.reg false [0, 1, 4] [⟨some 4, .alloc [.int .i64 0, .int .i64 0, .sl none 0 0 0], none, 0, []⟩])
  (.seq (.reg false [4] [⟨some 5, .mv (.t 0), none, 0, []⟩,
    ⟨some 6, .mv (.t 1), none, 0, []⟩,
    ⟨some 7, .mv (.t 1), none, 0, []⟩,
    ⟨some 8, .mv (.t 0), none, 0, []⟩,
    ⟨some 9, .call (.f 75) [(.t 8)], none, 0, []⟩,
    ⟨some 10, .bin .mul .num (.t 7) (.t 9), none, 0, []⟩,
    ⟨some 11, .mkslice 1 8 [.int .u64 0] (.t 10) (.t 10), none, 0, []⟩,
    ⟨some 12, .build [.int .i64 0, .int .i64 0, .sl none 0 0 0] [(0, 1, (.t 5)), (1, 1, (.t 6)), (2, 1, (.t 11))], none, 0, []⟩,
    ⟨none, .store 3 (.t 4) (.t 12), none, 0, []⟩])
  (.ret))⟩

/-- burin/burinref0.Get -/
def burinref0_Get : AFun := ⟨3, 44, true, [.t 6],
  .seq (.reg false [1, 2, 3] [⟨some 3, .box 3 (.t 0), none, 0, []⟩,
    ⟨some 6, .mv (.c (.int .i64 0)), none, 0, []⟩])
  (.seq (.seq (.reg false [1, 2, 3, 24] [⟨some 7, .mv (.t 1), none, 0, []⟩,
    ⟨some 8, .bin .lss .num (.t 7) (.c (.int .i64 0)), none, 0, []⟩,
    ⟨some 9, .mv (.t 8), none, 0, []⟩,
    ⟨some 10, .mv (.t 2), some (9, false), 0, []⟩,
    ⟨some 11, .bin .lss .num (.t 10) (.c (.int .i64 0)), some (9, false), 0, []⟩,
    ⟨some 12, .pick (.t 9) (.c (.bool true)) (.t 11), none, 0, []⟩,
    ⟨some 13, .mv (.t 12), none, 0, []⟩,
    ⟨some 14, .mv (.t 1), some (13, false), 0, []⟩,
    ⟨some 15, .fad 0 (.t 3), some (13, false), 0, []⟩,
    ⟨some 16, .load none (.t 15), some (13, false), 0, []⟩,
    ⟨some 17, .bin .geq .num (.t 14) (.t 16), some (13, false), 0, []⟩,
    ⟨some 18, .pick (.t 13) (.c (.bool true)) (.t 17), none, 0, []⟩,
    ⟨some 19, .mv (.t 18), none, 0, []⟩,
    ⟨some 20, .mv (.t 2), some (19, false), 0, []⟩,
    ⟨some 21, .fad 1 (.t 3), some (19, false), 0, []⟩,
    ⟨some 22, .load none (.t 21), some (19, false), 0, []⟩,
    ⟨some 23, .bin .geq .num (.t 20) (.t 22), some (19, false), 0, []⟩,
    ⟨some 24, .pick (.t 19) (.c (.bool true)) (.t 23), none, 0, []⟩])
  (.cond (.t 24) (.seq (.reg false [6] [⟨some 6, .mv (.c (.int .i64 0)), none, 0, []⟩])
  (.ret))
  (.skip)))
  (.seq (.reg true [6] [⟨some 25, .fad 2 (.t 3), none, 0, []⟩,
    ⟨some 26, .load none (.t 25), none, 1, []⟩,
    ⟨some 27, .mv (.t 2), none, 2, []⟩,
    ⟨some 28, .fad 0 (.t 3), none, 3, []⟩,
    ⟨some 29, .load none (.t 28), none, 4, []⟩,
    ⟨some 32, .mv (.t 1), none, 7, []⟩,
    ⟨some 33, .bin .quo .num (.t 32) (.c (.int .i64 64)), none, 8, []⟩,
    ⟨some 37, .mv (.t 1), none, 12, []⟩,
    ⟨some 38, .bin .rem .num (.t 37) (.c (.int .i64 64)), none, 13, []⟩,
    ⟨some 39, .bin .sub .num (.c (.int .i64 63)) (.t 38), none, 14, []⟩,
    ⟨some 40, .conv .u64 (.t 39), none, 15, []⟩,
    ⟨some 30, .call (.f 75) [(.t 29)], none, 5, [1]⟩,
    ⟨some 31, .bin .mul .num (.t 27) (.t 30), none, 6, []⟩,
    ⟨some 34, .bin .add .num (.t 31) (.t 33), none, 9, []⟩,
    ⟨some 35, .iad none 1 (.t 26) (.t 34), none, 10, []⟩,
    ⟨some 36, .load none (.t 35), none, 11, []⟩,
    ⟨some 41, .bin .shr .num (.t 36) (.t 40), none, 16, []⟩,
    ⟨some 42, .bin .and .num (.t 41) (.c (.int .u64 1)), none, 17, []⟩,
    ⟨some 43, .conv .i64 (.t 42), none, 18, []⟩,
    ⟨some 6, .mv (.t 43), none, 19, []⟩])
  (.ret)))⟩

/-- burin/burinref0.Put -/
def burinref0_Put : AFun := ⟨4, 47, true, [],
  .seq (.reg false [1, 2, 3, 4] [⟨some 4, .box 3 (.t 0), none, 0, []⟩])
  (.seq (.reg false [1, 3, 4, 8] [⟨some 10, .mv (.t 2), none, 0, []⟩,
    ⟨some 11, .fad 0 (.t 4), none, 0, []⟩,
    ⟨some 12, .load none (.t 11), none, 0, []⟩,
    ⟨some 13, .call (.f 75) [(.t 12)], none, 0, []⟩,
    ⟨some 14, .bin .mul .num (.t 10) (.t 13), none, 0, []⟩,
    ⟨some 15, .mv (.t 1), none, 0, []⟩,
    ⟨some 16, .bin .quo .num (.t 15) (.c (.int .i64 64)), none, 0, []⟩,
    ⟨some 17, .bin .add .num (.t 14) (.t 16), none, 0, []⟩,
    ⟨some 8, .mv (.t 17), none, 0, []⟩])
  (.seq (.reg false [3, 4, 8, 9] [⟨some 18, .mv (.t 1), none, 0, []⟩,
    ⟨some 19, .bin .rem .num (.t 18) (.c (.int .i64 64)), none, 0, []⟩,
    ⟨some 20, .bin .sub .num (.c (.int .i64 63)) (.t 19), none, 0, []⟩,
    ⟨some 21, .conv .u64 (.t 20), none, 0, []⟩,
    ⟨some 22, .bin .shl .num (.c (.int .u64 1)) (.t 21), none, 0, []⟩,
    ⟨some 9, .mv (.t 22), none, 0, []⟩])
  (.seq (.reg true [3, 4, 8, 9] [⟨some 23, .fad 2 (.t 4), none, 0, []⟩,
    ⟨some 24, .load none (.t 23), none, 1, []⟩,
    ⟨some 25, .mv (.t 8), none, 2, []⟩,
    ⟨some 26, .fad 2 (.t 4), none, 3, []⟩,
    ⟨some 27, .load none (.t 26), none, 4, []⟩,
    ⟨some 28, .mv (.t 8), none, 5, []⟩,
    ⟨some 29, .iad none 1 (.t 27) (.t 28), none, 6, []⟩,
    ⟨some 30, .load none (.t 29), none, 7, []⟩,
    ⟨some 31, .mv (.t 9), none, 8, []⟩,
    ⟨some 32, .bin .andNot .num (.t 30) (.t 31), none, 9, []⟩,
    ⟨some 33, .iad none 1 (.t 24) (.t 25), none, 10, []⟩,
    ⟨none, .store 1 (.t 33) (.t 32), none, 11, []⟩])
  (.seq (.reg false [4, 8, 9, 35] [⟨some 34, .mv (.t 3), none, 0, []⟩,
    ⟨some 35, .bin .eql .num (.t 34) (.c (.int .i64 1)), none, 0, []⟩])
  (.cond (.t 35) (.reg true [] [⟨some 36, .fad 2 (.t 4), none, 0, []⟩,
    ⟨some 37, .load none (.t 36), none, 1, []⟩,
    ⟨some 38, .mv (.t 8), none, 2, []⟩,
    ⟨some 39, .fad 2 (.t 4), none, 3, []⟩,
    ⟨some 40, .load none (.t 39), none, 4, []⟩,
    ⟨some 41, .mv (.t 8), none, 5, []⟩,
    ⟨some 42, .iad none 1 (.t 40) (.t 41), none, 6, []⟩,
    ⟨some 43, .load none (.t 42), none, 7, []⟩,
    ⟨some 44, .mv (.t 9), none, 8, []⟩,
    ⟨some 45, .bin .or .num (.t 43) (.t 44), none, 9, []⟩,
    ⟨some 46, .iad none 1 (.t 37) (.t 38), none, 10, []⟩,
    ⟨none, .store 1 (.t 46) (.t 45), none, 11, []⟩])
  (.skip))))))⟩

/-- burin/burinref0.Do -/
def burinref0_Do : AFun := ⟨3, 30, true, [.t 6],
  .seq (.reg false [0, 1, 2] [⟨some 6, .mv (.c (.int .i64 0)), none, 0, []⟩])
  (.seq (.seq (.reg false [1, 2, 7] [⟨some 7, .mv (.t 0), none, 0, []⟩])
  (.block 0 (.seq (.reg false [1, 2, 7, 8] [⟨some 9, .bin .eql .num (.t 7) (.c (.int .i64 0)), none, 0, []⟩,
    ⟨some 8, .mv (.t 9), none, 0, []⟩])
  (.cond (.t 8) (.seq (.reg false [6] [⟨some 10, .mv (.t 1), none, 0, []⟩,
    ⟨some 11, .mv (.t 2), none, 0, []⟩,
    ⟨some 12, .bin .or .num (.t 10) (.t 11), none, 0, []⟩,
    ⟨some 6, .mv (.t 12), none, 0, []⟩])
  (.ret))
  (.seq (.reg false [1, 2, 7, 13] [⟨some 14, .bin .eql .num (.t 7) (.c (.int .i64 1)), none, 0, []⟩,
    ⟨some 13, .mv (.t 14), none, 0, []⟩])
  (.cond (.t 13) (.seq (.reg false [6] [⟨some 15, .mv (.t 1), none, 0, []⟩,
    ⟨some 16, .mv (.t 2), none, 0, []⟩,
    ⟨some 17, .bin .and .num (.t 15) (.t 16), none, 0, []⟩,
    ⟨some 6, .mv (.t 17), none, 0, []⟩])
  (.ret))
  (.seq (.reg false [1, 2, 7, 18] [⟨some 19, .bin .eql .num (.t 7) (.c (.int .i64 2)), none, 0, []⟩,
    ⟨some 18, .mv (.t 19), none, 0, []⟩])
  (.cond (.t 18) (.seq (.reg false [6] [⟨some 20, .mv (.t 1), none, 0, []⟩,
    ⟨some 21, .mv (.t 2), none, 0, []⟩,
    ⟨some 22, .bin .xor .num (.t 20) (.t 21), none, 0, []⟩,
    ⟨some 6, .mv (.t 22), none, 0, []⟩])
  (.ret))
  (.seq (.reg false [1, 2, 23] [⟨some 24, .bin .eql .num (.t 7) (.c (.int .i64 3)), none, 0, []⟩,
    ⟨some 23, .mv (.t 24), none, 0, []⟩])
  (.cond (.t 23) (.seq (.reg false [6] [⟨some 25, .mv (.t 1), none, 0, []⟩,
    ⟨some 26, .mv (.t 2), none, 0, []⟩,
    ⟨some 27, .bin .xor .num (.t 25) (.t 26), none, 0, []⟩,
    ⟨some 28, .bin .sub .num (.c (.int .i64 1)) (.t 27), none, 0, []⟩,
    ⟨some 6, .mv (.t 28), none, 0, []⟩])
  (.ret))
  (.skip)))))))))))
  (.seq (.reg false [6] [⟨some 29, .mv (.t 2), none, 0, []⟩,
    ⟨some 6, .mv (.t 29), none, 0, []⟩])
  (.ret)))⟩

def burinref0_Count_l1 : Cd := .seq (.seq (.reg false [1, 3, 4, 5, 15] [⟨some 12, .mv (.t 5), none, 0, []⟩,
    ⟨some 13, .fad 0 (.t 1), none, 0, []⟩,
    ⟨some 14, .load none (.t 13), none, 0, []⟩,
    ⟨some 15, .bin .lss .num (.t 12) (.t 14), none, 0, []⟩])
  (.cond (.t 15) (.skip)
  (.exit 2)))
  (.seq (.block 3 (.reg false [1, 3, 4, 5] [⟨some 18, .mv (.t 3), none, 0, []⟩,
    ⟨some 19, .load (some 3) (.t 1), none, 0, []⟩,
    ⟨some 20, .mv (.t 5), none, 0, []⟩,
    ⟨some 21, .mv (.t 4), none, 0, []⟩,
    ⟨some 22, .call (.f 78) [(.t 19), (.t 20), (.t 21)], none, 0, []⟩,
    ⟨some 23, .bin .add .num (.t 18) (.t 22), none, 0, []⟩,
    ⟨some 3, .mv (.t 23), none, 0, []⟩]))
  (.reg false [1, 3, 4, 5] [⟨some 16, .mv (.t 5), none, 0, []⟩,
    ⟨some 17, .bin .add .num (.t 16) (.c (.int .i64 1)), none, 0, []⟩,
    ⟨some 5, .mv (.t 17), none, 0, []⟩]))
def burinref0_Count_l0 : Cd := .seq (.seq (.reg false [1, 3, 4, 9] [⟨some 6, .mv (.t 4), none, 0, []⟩,
    ⟨some 7, .fad 1 (.t 1), none, 0, []⟩,
    ⟨some 8, .load none (.t 7), none, 0, []⟩,
    ⟨some 9, .bin .lss .num (.t 6) (.t 8), none, 0, []⟩])
  (.cond (.t 9) (.skip)
  (.exit 0)))
  (.seq (.block 1 (.seq (.reg false [1, 3, 4, 5] [⟨some 5, .mv (.c (.int .i64 0)), none, 0, []⟩])
  (.block 2 (.loop [1, 3, 4, 5] burinref0_Count_l1))))
  (.reg false [1, 3, 4] [⟨some 10, .mv (.t 4), none, 0, []⟩,
    ⟨some 11, .bin .add .num (.t 10) (.c (.int .i64 1)), none, 0, []⟩,
    ⟨some 4, .mv (.t 11), none, 0, []⟩]))
/-- burin/burinref0.Count -/
def burinref0_Count : AFun := ⟨1, 25, true, [.t 2],
  .seq (.reg false [1] [⟨some 1, .box 3 (.t 0), none, 0, []⟩,
    ⟨some 2, .mv (.c (.int .i64 0)), none, 0, []⟩])
  (.seq (.reg false [1, 3] [⟨some 3, .mv (.c (.int .i64 0)), none, 0, []⟩])
  (.seq (.seq (.reg false [1, 3, 4] [⟨some 4, .mv (.c (.int .i64 0)), none, 0, []⟩])
  (.block 0 (.loop [1, 3, 4] burinref0_Count_l0)))
  (.seq (.reg false [2] [⟨some 24, .mv (.t 3), none, 0, []⟩,
    ⟨some 2, .mv (.t 24), none, 0, []⟩])
  (.ret))))⟩

/-- burin/burinref0.CopyBitmap -/
def burinref0_CopyBitmap : AFun := ⟨1, 13, true, [.cell 2 (some 3)],
  .seq (.reg false [1, 2] [⟨some 1, .box 3 (.t 0), none, 0, []⟩,
    ⟨some 2, .alloc [.int .i64 0, .int .i64 0, .sl none 0 0 0], none, 0, []⟩])
  (.seq (.reg false [1, 2, 3] [⟨some 3, .mv (.c (.sl none 0 0 0)), none, 0, []⟩])
  (.seq (.reg true [2] [⟨some 4, .fad 0 (.t 1), none, 0, []⟩,
    ⟨some 5, .load none (.t 4), none, 1, []⟩,
    ⟨some 6, .fad 1 (.t 1), none, 2, []⟩,
    ⟨some 7, .load none (.t 6), none, 3, []⟩,
    ⟨some 8, .mv (.t 3), none, 4, []⟩,
    ⟨some 9, .fad 2 (.t 1), none, 5, []⟩,
    ⟨some 10, .load none (.t 9), none, 6, []⟩,
    ⟨some 11, .append 1 8 (.t 8) (.t 10), none, 7, [1, 3]⟩,
    ⟨some 12, .build [.int .i64 0, .int .i64 0, .sl none 0 0 0] [(0, 1, (.t 5)), (1, 1, (.t 7)), (2, 1, (.t 11))], none, 8, []⟩,
    ⟨none, .store 3 (.t 2) (.t 12), none, 9, []⟩])
  (.ret)))⟩

/-- burin/burinref0.EqBitmap -/
def burinref0_EqBitmap : AFun := ⟨2, 24, true, [.t 4],
  .seq (.reg false [2, 3] [⟨some 2, .box 3 (.t 0), none, 0, []⟩,
    ⟨some 3, .box 3 (.t 1), none, 0, []⟩,
    ⟨some 4, .mv (.c (.bool false)), none, 0, []⟩])
  (.seq (.reg false [4] [⟨some 5, .fad 0 (.t 2), none, 0, []⟩,
    ⟨some 6, .load none (.t 5), none, 0, []⟩,
    ⟨some 7, .fad 0 (.t 3), none, 0, []⟩,
    ⟨some 8, .load none (.t 7), none, 0, []⟩,
    ⟨some 9, .bin .eql .num (.t 6) (.t 8), none, 0, []⟩,
    ⟨some 10, .mv (.t 9), none, 0, []⟩,
    ⟨some 11, .fad 1 (.t 2), some (10, true), 0, []⟩,
    ⟨some 12, .load none (.t 11), some (10, true), 0, []⟩,
    ⟨some 13, .fad 1 (.t 3), some (10, true), 0, []⟩,
    ⟨some 14, .load none (.t 13), some (10, true), 0, []⟩,
    ⟨some 15, .bin .eql .num (.t 12) (.t 14), some (10, true), 0, []⟩,
    ⟨some 16, .pick (.t 10) (.t 15) (.c (.bool false)), none, 0, []⟩,
    ⟨some 17, .mv (.t 16), none, 0, []⟩,
    ⟨some 18, .fad 2 (.t 2), some (17, true), 0, []⟩,
    ⟨some 19, .load none (.t 18), some (17, true), 0, []⟩,
    ⟨some 20, .fad 2 (.t 3), some (17, true), 0, []⟩,
    ⟨some 21, .load none (.t 20), some (17, true), 0, []⟩,
    ⟨some 22, .call (.f 83) [(.t 19), (.t 21)], some (17, true), 0, []⟩,
    ⟨some 23, .pick (.t 17) (.t 22) (.c (.bool false)), none, 0, []⟩,
    ⟨some 4, .mv (.t 23), none, 0, []⟩])
  (.ret))⟩

def burinref0_EqWords_l0 : Cd := .seq (.seq (.reg false [0, 1, 5, 14] [⟨some 11, .mv (.t 5), none, 0, []⟩,
    ⟨some 12, .mv (.t 0), none, 0, []⟩,
    ⟨some 13, .len none (.t 12), none, 0, []⟩,
    ⟨some 14, .bin .lss .num (.t 11) (.t 13), none, 0, []⟩])
  (.cond (.t 14) (.skip)
  (.exit 0)))
  (.seq (.block 1 (.seq (.reg true [0, 1, 5, 25] [⟨some 17, .mv (.t 0), none, 0, []⟩,
    ⟨some 18, .mv (.t 5), none, 1, []⟩,
    ⟨some 19, .iad none 1 (.t 17) (.t 18), none, 2, []⟩,
    ⟨some 20, .load none (.t 19), none, 3, []⟩,
    ⟨some 21, .mv (.t 1), none, 4, []⟩,
    ⟨some 22, .mv (.t 5), none, 5, []⟩,
    ⟨some 23, .iad none 1 (.t 21) (.t 22), none, 6, []⟩,
    ⟨some 24, .load none (.t 23), none, 7, []⟩,
    ⟨some 25, .bin .neq .num (.t 20) (.t 24), none, 8, []⟩])
  (.cond (.t 25) (.seq (.reg false [4] [⟨some 4, .mv (.c (.bool false)), none, 0, []⟩])
  (.ret))
  (.skip))))
  (.reg false [0, 1, 5] [⟨some 15, .mv (.t 5), none, 0, []⟩,
    ⟨some 16, .bin .add .num (.t 15) (.c (.int .i64 1)), none, 0, []⟩,
    ⟨some 5, .mv (.t 16), none, 0, []⟩]))
/-- burin/burinref0.EqWords -/
def burinref0_EqWords : AFun := ⟨2, 26, true, [.t 4],
  .seq (.reg false [0, 1] [⟨some 4, .mv (.c (.bool false)), none, 0, []⟩])
  (.seq (.seq (.reg false [0, 1, 10] [⟨some 6, .mv (.t 0), none, 0, []⟩,
    ⟨some 7, .len none (.t 6), none, 0, []⟩,
    ⟨some 8, .mv (.t 1), none, 0, []⟩,
    ⟨some 9, .len none (.t 8), none, 0, []⟩,
    ⟨some 10, .bin .neq .num (.t 7) (.t 9), none, 0, []⟩])
  (.cond (.t 10) (.seq (.reg false [4] [⟨some 4, .mv (.c (.bool false)), none, 0, []⟩])
  (.ret))
  (.skip)))
  (.seq (.seq (.reg false [0, 1, 5] [⟨some 5, .mv (.c (.int .i64 0)), none, 0, []⟩])
  (.block 0 (.loop [0, 1, 5] burinref0_EqWords_l0)))
  (.seq (.reg false [4] [⟨some 4, .mv (.c (.bool true)), none, 0, []⟩])
  (.ret))))⟩

/-- A program that has them. -/
structure HasRz (P : Prog) : Prop where
  h_burinref0_Size : P 74 = some burinref0_Size
  h_burinref0_words : P 75 = some burinref0_words
  h_burinref0_May : P 76 = some burinref0_May
  h_burinref0_White : P 77 = some burinref0_White
  h_burinref0_Get : P 78 = some burinref0_Get
  h_burinref0_Put : P 79 = some burinref0_Put
  h_burinref0_Do : P 80 = some burinref0_Do
  h_burinref0_Count : P 81 = some burinref0_Count
  h_burinref0_CopyBitmap : P 82 = some burinref0_CopyBitmap
  h_burinref0_EqBitmap : P 84 = some burinref0_EqBitmap
  h_burinref0_EqWords : P 83 = some burinref0_EqWords

end Go.Ab
