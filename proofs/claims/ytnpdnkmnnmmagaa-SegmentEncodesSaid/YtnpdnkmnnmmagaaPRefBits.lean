/- The texts of functions of the given program, for the abstract machine: written by wip/tools/gen.py out of Lean's print of the translation. Conditions: none; definitions alone. -/
import Derived.Test.YtnpdnkmnnmmagaaK1
set_option linter.all false
namespace Go.Ab
-- burinref1_Writer_Put: 17, parameters w n width; loops burinref1_Writer_Put_l0 [0 w, 1 n, 7 i]
-- burinref1_Groups: 18, parameters n; loops burinref1_Groups_l0 [0 n, 3 b]
-- burinref1_Writer_Var: 19, parameters w n; loops burinref1_Writer_Var_l0 [0 w, 5 b, 6 i]
-- burinref1_Writer_Align: 20, parameters w; loops burinref1_Writer_Align_l0 [0 w]
-- burinref1_Writer_Bytes: 21, parameters w; loops burinref1_Writer_Bytes_l0 [0 w, 3 b, 4 i]
-- burinref1_Reader_Left: 22, parameters r; loops 
-- burinref1_Reader_Take: 23, parameters r width; loops burinref1_Reader_Take_l0 [0 r, 1 width, 6 n, 7 i]
-- burinref1_Reader_Var: 24, parameters r; loops burinref1_Reader_Var_l0 [0 r, 4 was, 5 n, 6 i]
-- burinref1_Reader_Align: 25, parameters r; loops burinref1_Reader_Align_l0 [0 r, 3 was]

def burinref1_Writer_Put_l0 : Cd := .seq (.seq (.reg false [0, 1, 7, 39] [⟨some 38, .mv (.t 7), none, 0, []⟩,
    ⟨some 39, .bin .geq .num (.t 38) (.c (.int .i64 0)), none, 0, []⟩])
  (.cond (.t 39) (.skip)
  (.exit 0)))
  (.seq (.block 1 (.reg false [0, 1, 7] [⟨some 42, .mv (.t 0), none, 0, []⟩,
    ⟨some 43, .mv (.t 0), none, 0, []⟩,
    ⟨some 44, .nilck (.t 43), none, 0, []⟩,
    ⟨some 45, .fad 1 (.t 44), none, 0, []⟩,
    ⟨some 46, .load none (.t 45), none, 0, []⟩,
    ⟨some 47, .mv (.t 1), none, 0, []⟩,
    ⟨some 48, .mv (.t 7), none, 0, []⟩,
    ⟨some 49, .conv .u64 (.t 48), none, 0, []⟩,
    ⟨some 50, .bin .shr .num (.t 47) (.t 49), none, 0, []⟩,
    ⟨some 51, .bin .and .num (.t 50) (.c (.int .u64 1)), none, 0, []⟩,
    ⟨some 52, .conv .i64 (.t 51), none, 0, []⟩,
    ⟨some 53, .bslice 1 [.int .i64 0] 1 [(0, (.t 52))], none, 0, []⟩,
    ⟨some 54, .append 1 8 (.t 46) (.t 53), none, 0, []⟩,
    ⟨some 55, .nilck (.t 42), none, 0, []⟩,
    ⟨some 56, .fad 1 (.t 55), none, 0, []⟩,
    ⟨none, .store 1 (.t 56) (.t 54), none, 0, []⟩]))
  (.reg false [0, 1, 7] [⟨some 40, .mv (.t 7), none, 0, []⟩,
    ⟨some 41, .bin .sub .num (.t 40) (.c (.int .i64 1)), none, 0, []⟩,
    ⟨some 7, .mv (.t 41), none, 0, []⟩]))
/-- (*burin/burinref1.Writer).Put -/
def burinref1_Writer_Put : AFun := ⟨3, 57, true, [.t 6],
  .seq (.reg false [0, 1, 2] [⟨some 6, .mv (.c (.int .i64 0)), none, 0, []⟩])
  (.seq (.seq (.reg false [0, 1, 2, 13] [⟨some 8, .mv (.t 2), none, 0, []⟩,
    ⟨some 9, .bin .lss .num (.t 8) (.c (.int .i64 0)), none, 0, []⟩,
    ⟨some 10, .mv (.t 9), none, 0, []⟩,
    ⟨some 11, .mv (.t 2), some (10, false), 0, []⟩,
    ⟨some 12, .bin .gtr .num (.t 11) (.c (.int .i64 64)), some (10, false), 0, []⟩,
    ⟨some 13, .pick (.t 10) (.c (.bool true)) (.t 12), none, 0, []⟩])
  (.cond (.t 13) (.seq (.reg false [6] [⟨some 6, .mv (.c (.int .i64 11)), none, 0, []⟩])
  (.ret))
  (.skip)))
  (.seq (.seq (.reg false [0, 1, 2, 22] [⟨some 14, .mv (.t 2), none, 0, []⟩,
    ⟨some 15, .bin .lss .num (.t 14) (.c (.int .i64 64)), none, 0, []⟩,
    ⟨some 16, .mv (.t 15), none, 0, []⟩,
    ⟨some 17, .mv (.t 1), some (16, true), 0, []⟩,
    ⟨some 18, .mv (.t 2), some (16, true), 0, []⟩,
    ⟨some 19, .conv .u64 (.t 18), some (16, true), 0, []⟩,
    ⟨some 20, .bin .shr .num (.t 17) (.t 19), some (16, true), 0, []⟩,
    ⟨some 21, .bin .gtr .num (.t 20) (.c (.int .u64 0)), some (16, true), 0, []⟩,
    ⟨some 22, .pick (.t 16) (.t 21) (.c (.bool false)), none, 0, []⟩])
  (.cond (.t 22) (.seq (.reg false [6] [⟨some 6, .mv (.c (.int .i64 12)), none, 0, []⟩])
  (.ret))
  (.skip)))
  (.seq (.seq (.reg true [0, 1, 2, 35] [⟨some 23, .mv (.t 0), none, 0, []⟩,
    ⟨some 24, .nilck (.t 23), none, 1, []⟩,
    ⟨some 25, .fad 1 (.t 24), none, 2, []⟩,
    ⟨some 26, .load none (.t 25), none, 3, []⟩,
    ⟨some 27, .len none (.t 26), none, 4, []⟩,
    ⟨some 28, .mv (.t 2), none, 5, []⟩,
    ⟨some 29, .bin .add .num (.t 27) (.t 28), none, 6, []⟩,
    ⟨some 30, .mv (.t 0), none, 7, []⟩,
    ⟨some 31, .nilck (.t 30), none, 8, []⟩,
    ⟨some 32, .fad 0 (.t 31), none, 9, []⟩,
    ⟨some 33, .load none (.t 32), none, 10, []⟩,
    ⟨some 34, .bin .mul .num (.c (.int .i64 8)) (.t 33), none, 11, []⟩,
    ⟨some 35, .bin .gtr .num (.t 29) (.t 34), none, 12, []⟩])
  (.cond (.t 35) (.seq (.reg false [6] [⟨some 6, .mv (.c (.int .i64 13)), none, 0, []⟩])
  (.ret))
  (.skip)))
  (.seq (.seq (.reg false [0, 1, 7] [⟨some 36, .mv (.t 2), none, 0, []⟩,
    ⟨some 37, .bin .sub .num (.t 36) (.c (.int .i64 1)), none, 0, []⟩,
    ⟨some 7, .mv (.t 37), none, 0, []⟩])
  (.block 0 (.loop [0, 1, 7] burinref1_Writer_Put_l0)))
  (.seq (.reg false [6] [⟨some 6, .mv (.c (.int .i64 0)), none, 0, []⟩])
  (.ret))))))⟩

def burinref1_Groups_l0 : Cd := .seq (.seq (.reg false [0, 3, 5] [⟨some 4, .mv (.t 0), none, 0, []⟩,
    ⟨some 5, .bin .geq .num (.t 4) (.c (.int .u64 128)), none, 0, []⟩])
  (.cond (.t 5) (.skip)
  (.exit 0)))
  (.block 1 (.seq (.reg false [0, 3] [⟨some 6, .mv (.t 3), none, 0, []⟩,
    ⟨some 7, .mv (.t 0), none, 0, []⟩,
    ⟨some 8, .bin .rem .num (.t 7) (.c (.int .u64 128)), none, 0, []⟩,
    ⟨some 9, .conv .u8 (.t 8), none, 0, []⟩,
    ⟨some 10, .bin .add .num (.t 9) (.c (.int .u8 128)), none, 0, []⟩,
    ⟨some 11, .bslice 1 [.int .u8 0] 1 [(0, (.t 10))], none, 0, []⟩,
    ⟨some 12, .append 1 1 (.t 6) (.t 11), none, 0, []⟩,
    ⟨some 3, .mv (.t 12), none, 0, []⟩])
  (.reg false [0, 3] [⟨some 13, .mv (.t 0), none, 0, []⟩,
    ⟨some 14, .bin .quo .num (.t 13) (.c (.int .u64 128)), none, 0, []⟩,
    ⟨some 0, .mv (.t 14), none, 0, []⟩])))
/-- burin/burinref1.Groups -/
def burinref1_Groups : AFun := ⟨1, 20, true, [.t 2],
  .seq (.reg false [0] [⟨some 2, .mv (.c (.sl none 0 0 0)), none, 0, []⟩])
  (.seq (.reg false [0, 3] [⟨some 3, .mv (.c (.sl none 0 0 0)), none, 0, []⟩])
  (.seq (.block 0 (.loop [0, 3] burinref1_Groups_l0))
  (.seq (.reg false [2] [⟨some 15, .mv (.t 3), none, 0, []⟩,
    ⟨some 16, .mv (.t 0), none, 0, []⟩,
    ⟨some 17, .conv .u8 (.t 16), none, 0, []⟩,
    ⟨some 18, .bslice 1 [.int .u8 0] 1 [(0, (.t 17))], none, 0, []⟩,
    ⟨some 19, .append 1 1 (.t 15) (.t 18), none, 0, []⟩,
    ⟨some 2, .mv (.t 19), none, 0, []⟩])
  (.ret))))⟩

def burinref1_Writer_Var_l0 : Cd := .seq (.seq (.reg false [0, 5, 6, 27] [⟨some 24, .mv (.t 6), none, 0, []⟩,
    ⟨some 25, .mv (.t 5), none, 0, []⟩,
    ⟨some 26, .len none (.t 25), none, 0, []⟩,
    ⟨some 27, .bin .lss .num (.t 24) (.t 26), none, 0, []⟩])
  (.cond (.t 27) (.skip)
  (.exit 0)))
  (.seq (.block 1 (.reg false [0, 5, 6] [⟨some 30, .mv (.t 0), none, 0, []⟩,
    ⟨some 31, .mv (.t 5), none, 0, []⟩,
    ⟨some 32, .mv (.t 6), none, 0, []⟩,
    ⟨some 33, .iad none 1 (.t 31) (.t 32), none, 0, []⟩,
    ⟨some 34, .load none (.t 33), none, 0, []⟩,
    ⟨some 35, .conv .u64 (.t 34), none, 0, []⟩,
    ⟨some 36, .call (.f 17) [(.t 30), (.t 35), (.c (.int .i64 8))], none, 0, []⟩]))
  (.reg false [0, 5, 6] [⟨some 28, .mv (.t 6), none, 0, []⟩,
    ⟨some 29, .bin .add .num (.t 28) (.c (.int .i64 1)), none, 0, []⟩,
    ⟨some 6, .mv (.t 29), none, 0, []⟩]))
/-- (*burin/burinref1.Writer).Var -/
def burinref1_Writer_Var : AFun := ⟨2, 37, true, [.t 4],
  .seq (.reg false [0, 1] [⟨some 4, .mv (.c (.int .i64 0)), none, 0, []⟩])
  (.seq (.reg false [0, 5] [⟨some 7, .mv (.t 1), none, 0, []⟩,
    ⟨some 8, .call (.f 18) [(.t 7)], none, 0, []⟩,
    ⟨some 5, .mv (.t 8), none, 0, []⟩])
  (.seq (.seq (.reg true [0, 5, 23] [⟨some 9, .mv (.t 0), none, 0, []⟩,
    ⟨some 10, .nilck (.t 9), none, 1, []⟩,
    ⟨some 11, .fad 1 (.t 10), none, 2, []⟩,
    ⟨some 12, .load none (.t 11), none, 3, []⟩,
    ⟨some 13, .len none (.t 12), none, 4, []⟩,
    ⟨some 14, .mv (.t 5), none, 5, []⟩,
    ⟨some 15, .len none (.t 14), none, 6, []⟩,
    ⟨some 16, .bin .mul .num (.c (.int .i64 8)) (.t 15), none, 7, []⟩,
    ⟨some 17, .bin .add .num (.t 13) (.t 16), none, 8, []⟩,
    ⟨some 18, .mv (.t 0), none, 9, []⟩,
    ⟨some 19, .nilck (.t 18), none, 10, []⟩,
    ⟨some 20, .fad 0 (.t 19), none, 11, []⟩,
    ⟨some 21, .load none (.t 20), none, 12, []⟩,
    ⟨some 22, .bin .mul .num (.c (.int .i64 8)) (.t 21), none, 13, []⟩,
    ⟨some 23, .bin .gtr .num (.t 17) (.t 22), none, 14, []⟩])
  (.cond (.t 23) (.seq (.reg false [4] [⟨some 4, .mv (.c (.int .i64 13)), none, 0, []⟩])
  (.ret))
  (.skip)))
  (.seq (.seq (.reg false [0, 5, 6] [⟨some 6, .mv (.c (.int .i64 0)), none, 0, []⟩])
  (.block 0 (.loop [0, 5, 6] burinref1_Writer_Var_l0)))
  (.seq (.reg false [4] [⟨some 4, .mv (.c (.int .i64 0)), none, 0, []⟩])
  (.ret)))))⟩

def burinref1_Writer_Align_l0 : Cd := .seq (.seq (.reg false [0, 8] [⟨some 2, .mv (.t 0), none, 0, []⟩,
    ⟨some 3, .nilck (.t 2), none, 0, []⟩,
    ⟨some 4, .fad 1 (.t 3), none, 0, []⟩,
    ⟨some 5, .load none (.t 4), none, 0, []⟩,
    ⟨some 6, .len none (.t 5), none, 0, []⟩,
    ⟨some 7, .bin .rem .num (.t 6) (.c (.int .i64 8)), none, 0, []⟩,
    ⟨some 8, .bin .gtr .num (.t 7) (.c (.int .i64 0)), none, 0, []⟩])
  (.cond (.t 8) (.skip)
  (.exit 0)))
  (.block 1 (.reg false [0] [⟨some 9, .mv (.t 0), none, 0, []⟩,
    ⟨some 10, .mv (.t 0), none, 0, []⟩,
    ⟨some 11, .nilck (.t 10), none, 0, []⟩,
    ⟨some 12, .fad 1 (.t 11), none, 0, []⟩,
    ⟨some 13, .load none (.t 12), none, 0, []⟩,
    ⟨some 14, .bslice 1 [.int .i64 0] 1 [(0, (.c (.int .i64 0)))], none, 0, []⟩,
    ⟨some 15, .append 1 8 (.t 13) (.t 14), none, 0, []⟩,
    ⟨some 16, .nilck (.t 9), none, 0, []⟩,
    ⟨some 17, .fad 1 (.t 16), none, 0, []⟩,
    ⟨none, .store 1 (.t 17) (.t 15), none, 0, []⟩]))
/-- (*burin/burinref1.Writer).Align -/
def burinref1_Writer_Align : AFun := ⟨1, 18, true, [],
  .block 0 (.loop [0] burinref1_Writer_Align_l0)⟩

def burinref1_Writer_Bytes_l0 : Cd := .seq (.seq (.reg false [0, 3, 4, 19] [⟨some 13, .mv (.t 4), none, 0, []⟩,
    ⟨some 14, .mv (.t 0), none, 0, []⟩,
    ⟨some 15, .nilck (.t 14), none, 0, []⟩,
    ⟨some 16, .fad 1 (.t 15), none, 0, []⟩,
    ⟨some 17, .load none (.t 16), none, 0, []⟩,
    ⟨some 18, .len none (.t 17), none, 0, []⟩,
    ⟨some 19, .bin .lss .num (.t 13) (.t 18), none, 0, []⟩])
  (.cond (.t 19) (.skip)
  (.exit 0)))
  (.seq (.block 1 (.reg true [0, 3, 4] [⟨some 22, .mv (.t 3), none, 0, []⟩,
    ⟨some 23, .mv (.t 4), none, 1, []⟩,
    ⟨some 24, .bin .quo .num (.t 23) (.c (.int .i64 8)), none, 2, []⟩,
    ⟨some 25, .mv (.t 3), none, 3, []⟩,
    ⟨some 26, .mv (.t 4), none, 4, []⟩,
    ⟨some 27, .bin .quo .num (.t 26) (.c (.int .i64 8)), none, 5, []⟩,
    ⟨some 28, .iad none 1 (.t 25) (.t 27), none, 6, []⟩,
    ⟨some 29, .load none (.t 28), none, 7, []⟩,
    ⟨some 30, .mv (.t 0), none, 8, []⟩,
    ⟨some 31, .nilck (.t 30), none, 9, []⟩,
    ⟨some 32, .fad 1 (.t 31), none, 10, []⟩,
    ⟨some 33, .load none (.t 32), none, 11, []⟩,
    ⟨some 34, .mv (.t 4), none, 12, []⟩,
    ⟨some 35, .iad none 1 (.t 33) (.t 34), none, 13, []⟩,
    ⟨some 36, .load none (.t 35), none, 14, []⟩,
    ⟨some 37, .conv .u8 (.t 36), none, 15, []⟩,
    ⟨some 38, .mv (.t 4), none, 16, []⟩,
    ⟨some 39, .bin .rem .num (.t 38) (.c (.int .i64 8)), none, 17, []⟩,
    ⟨some 40, .bin .sub .num (.c (.int .i64 7)) (.t 39), none, 18, []⟩,
    ⟨some 41, .conv .u64 (.t 40), none, 19, []⟩,
    ⟨some 42, .bin .shl .num (.t 37) (.t 41), none, 20, []⟩,
    ⟨some 43, .bin .add .num (.t 29) (.t 42), none, 21, []⟩,
    ⟨some 44, .iad none 1 (.t 22) (.t 24), none, 22, []⟩,
    ⟨none, .store 1 (.t 44) (.t 43), none, 23, []⟩]))
  (.reg false [0, 3, 4] [⟨some 20, .mv (.t 4), none, 0, []⟩,
    ⟨some 21, .bin .add .num (.t 20) (.c (.int .i64 1)), none, 0, []⟩,
    ⟨some 4, .mv (.t 21), none, 0, []⟩]))
/-- (*burin/burinref1.Writer).Bytes -/
def burinref1_Writer_Bytes : AFun := ⟨1, 46, true, [.t 2],
  .seq (.reg false [0] [⟨some 2, .mv (.c (.sl none 0 0 0)), none, 0, []⟩])
  (.seq (.reg false [0, 3] [⟨some 5, .mv (.t 0), none, 0, []⟩,
    ⟨some 6, .nilck (.t 5), none, 0, []⟩,
    ⟨some 7, .fad 1 (.t 6), none, 0, []⟩,
    ⟨some 8, .load none (.t 7), none, 0, []⟩,
    ⟨some 9, .len none (.t 8), none, 0, []⟩,
    ⟨some 10, .bin .add .num (.t 9) (.c (.int .i64 7)), none, 0, []⟩,
    ⟨some 11, .bin .quo .num (.t 10) (.c (.int .i64 8)), none, 0, []⟩,
    ⟨some 12, .mkslice 1 1 [.int .u8 0] (.t 11) (.t 11), none, 0, []⟩,
    ⟨some 3, .mv (.t 12), none, 0, []⟩])
  (.seq (.seq (.reg false [0, 3, 4] [⟨some 4, .mv (.c (.int .i64 0)), none, 0, []⟩])
  (.block 0 (.loop [0, 3, 4] burinref1_Writer_Bytes_l0)))
  (.seq (.reg false [2] [⟨some 45, .mv (.t 3), none, 0, []⟩,
    ⟨some 2, .mv (.t 45), none, 0, []⟩])
  (.ret))))⟩

/-- (*burin/burinref1.Reader).Left -/
def burinref1_Reader_Left : AFun := ⟨1, 14, true, [.t 2],
  .seq (.reg false [0] [⟨some 2, .mv (.c (.int .i64 0)), none, 0, []⟩])
  (.seq (.reg true [2] [⟨some 3, .mv (.t 0), none, 0, []⟩,
    ⟨some 4, .nilck (.t 3), none, 1, []⟩,
    ⟨some 5, .fad 0 (.t 4), none, 2, []⟩,
    ⟨some 6, .load none (.t 5), none, 3, []⟩,
    ⟨some 7, .len none (.t 6), none, 4, []⟩,
    ⟨some 8, .bin .mul .num (.c (.int .i64 8)) (.t 7), none, 5, []⟩,
    ⟨some 9, .mv (.t 0), none, 6, []⟩,
    ⟨some 10, .nilck (.t 9), none, 7, []⟩,
    ⟨some 11, .fad 1 (.t 10), none, 8, []⟩,
    ⟨some 12, .load none (.t 11), none, 9, []⟩,
    ⟨some 13, .bin .sub .num (.t 8) (.t 12), none, 10, []⟩,
    ⟨some 2, .mv (.t 13), none, 11, []⟩])
  (.ret))⟩

def burinref1_Reader_Take_l0 : Cd := .seq (.seq (.reg false [0, 1, 6, 7, 20] [⟨some 18, .mv (.t 7), none, 0, []⟩,
    ⟨some 19, .mv (.t 1), none, 0, []⟩,
    ⟨some 20, .bin .lss .num (.t 18) (.t 19), none, 0, []⟩])
  (.cond (.t 20) (.skip)
  (.exit 0)))
  (.seq (.block 1 (.seq (.reg true [0, 1, 6, 7] [⟨some 23, .mv (.t 6), none, 0, []⟩,
    ⟨some 24, .bin .mul .num (.c (.int .u64 2)) (.t 23), none, 1, []⟩,
    ⟨some 25, .mv (.t 0), none, 2, []⟩,
    ⟨some 26, .nilck (.t 25), none, 3, []⟩,
    ⟨some 27, .fad 0 (.t 26), none, 4, []⟩,
    ⟨some 28, .load none (.t 27), none, 5, []⟩,
    ⟨some 29, .mv (.t 0), none, 6, []⟩,
    ⟨some 30, .nilck (.t 29), none, 7, []⟩,
    ⟨some 31, .fad 1 (.t 30), none, 8, []⟩,
    ⟨some 32, .load none (.t 31), none, 9, []⟩,
    ⟨some 33, .bin .quo .num (.t 32) (.c (.int .i64 8)), none, 10, []⟩,
    ⟨some 34, .iad none 1 (.t 28) (.t 33), none, 11, []⟩,
    ⟨some 35, .load none (.t 34), none, 12, []⟩,
    ⟨some 36, .mv (.t 0), none, 13, []⟩,
    ⟨some 37, .nilck (.t 36), none, 14, []⟩,
    ⟨some 38, .fad 1 (.t 37), none, 15, []⟩,
    ⟨some 39, .load none (.t 38), none, 16, []⟩,
    ⟨some 40, .bin .rem .num (.t 39) (.c (.int .i64 8)), none, 17, []⟩,
    ⟨some 41, .bin .sub .num (.c (.int .i64 7)) (.t 40), none, 18, []⟩,
    ⟨some 42, .conv .u64 (.t 41), none, 19, []⟩,
    ⟨some 43, .bin .shr .num (.t 35) (.t 42), none, 20, []⟩,
    ⟨some 44, .bin .and .num (.t 43) (.c (.int .u8 1)), none, 21, []⟩,
    ⟨some 45, .conv .u64 (.t 44), none, 22, []⟩,
    ⟨some 46, .bin .add .num (.t 24) (.t 45), none, 23, []⟩,
    ⟨some 6, .mv (.t 46), none, 24, []⟩])
  (.reg false [0, 1, 6, 7] [⟨some 47, .mv (.t 0), none, 0, []⟩,
    ⟨some 48, .nilck (.t 47), none, 0, []⟩,
    ⟨some 49, .fad 1 (.t 48), none, 0, []⟩,
    ⟨some 50, .load none (.t 49), none, 0, []⟩,
    ⟨some 51, .bin .add .num (.t 50) (.c (.int .i64 1)), none, 0, []⟩,
    ⟨some 52, .nilck (.t 47), none, 0, []⟩,
    ⟨some 53, .fad 1 (.t 52), none, 0, []⟩,
    ⟨none, .store 1 (.t 53) (.t 51), none, 0, []⟩])))
  (.reg false [0, 1, 6, 7] [⟨some 21, .mv (.t 7), none, 0, []⟩,
    ⟨some 22, .bin .add .num (.t 21) (.c (.int .i64 1)), none, 0, []⟩,
    ⟨some 7, .mv (.t 22), none, 0, []⟩]))
/-- (*burin/burinref1.Reader).Take -/
def burinref1_Reader_Take : AFun := ⟨2, 55, true, [.t 4, .t 5],
  .seq (.reg false [0, 1] [⟨some 4, .mv (.c (.int .u64 0)), none, 0, []⟩,
    ⟨some 5, .mv (.c (.int .i64 0)), none, 0, []⟩])
  (.seq (.seq (.reg false [0, 1, 13] [⟨some 8, .mv (.t 1), none, 0, []⟩,
    ⟨some 9, .bin .lss .num (.t 8) (.c (.int .i64 0)), none, 0, []⟩,
    ⟨some 10, .mv (.t 9), none, 0, []⟩,
    ⟨some 11, .mv (.t 1), some (10, false), 0, []⟩,
    ⟨some 12, .bin .gtr .num (.t 11) (.c (.int .i64 64)), some (10, false), 0, []⟩,
    ⟨some 13, .pick (.t 10) (.c (.bool true)) (.t 12), none, 0, []⟩])
  (.cond (.t 13) (.seq (.reg false [4, 5] [⟨some 4, .mv (.c (.int .u64 0)), none, 0, []⟩,
    ⟨some 5, .mv (.c (.int .i64 11)), none, 0, []⟩])
  (.ret))
  (.skip)))
  (.seq (.seq (.reg false [0, 1, 17] [⟨some 14, .mv (.t 0), none, 0, []⟩,
    ⟨some 15, .call (.f 22) [(.t 14)], none, 0, []⟩,
    ⟨some 16, .mv (.t 1), none, 0, []⟩,
    ⟨some 17, .bin .lss .num (.t 15) (.t 16), none, 0, []⟩])
  (.cond (.t 17) (.seq (.reg false [4, 5] [⟨some 4, .mv (.c (.int .u64 0)), none, 0, []⟩,
    ⟨some 5, .mv (.c (.int .i64 14)), none, 0, []⟩])
  (.ret))
  (.skip)))
  (.seq (.reg false [0, 1, 6] [⟨some 6, .mv (.c (.int .u64 0)), none, 0, []⟩])
  (.seq (.seq (.reg false [0, 1, 6, 7] [⟨some 7, .mv (.c (.int .i64 0)), none, 0, []⟩])
  (.block 0 (.loop [0, 1, 6, 7] burinref1_Reader_Take_l0)))
  (.seq (.reg false [4, 5] [⟨some 54, .mv (.t 6), none, 0, []⟩,
    ⟨some 4, .mv (.t 54), none, 0, []⟩,
    ⟨some 5, .mv (.c (.int .i64 0)), none, 0, []⟩])
  (.ret))))))⟩

def burinref1_Reader_Var_l0 : Cd := .seq (.seq (.reg false [0, 4, 5, 6, 14] [⟨some 13, .mv (.t 6), none, 0, []⟩,
    ⟨some 14, .bin .lss .num (.t 13) (.c (.int .i64 10)), none, 0, []⟩])
  (.cond (.t 14) (.skip)
  (.exit 0)))
  (.seq (.block 1 (.seq (.reg false [0, 4, 5, 6, 7, 8] [⟨some 18, .mv (.t 0), none, 0, []⟩,
    ⟨some 19, .call (.f 23) [(.t 18), (.c (.int .i64 8))], none, 0, []⟩,
    ⟨some 17, .mv (.t 19), none, 0, []⟩,
    ⟨some 20, .ext 0 (.t 17), none, 0, []⟩,
    ⟨some 21, .ext 1 (.t 17), none, 0, []⟩,
    ⟨some 7, .mv (.t 20), none, 0, []⟩,
    ⟨some 8, .mv (.t 21), none, 0, []⟩])
  (.seq (.seq (.reg false [0, 4, 5, 6, 7, 23] [⟨some 22, .mv (.t 8), none, 0, []⟩,
    ⟨some 23, .bin .neq .num (.t 22) (.c (.int .i64 0)), none, 0, []⟩])
  (.cond (.t 23) (.seq (.reg false [] [⟨some 24, .mv (.t 0), none, 0, []⟩,
    ⟨some 25, .mv (.t 4), none, 0, []⟩,
    ⟨some 26, .nilck (.t 24), none, 0, []⟩,
    ⟨some 27, .fad 1 (.t 26), none, 0, []⟩,
    ⟨none, .store 1 (.t 27) (.t 25), none, 0, []⟩])
  (.seq (.reg false [2, 3] [⟨some 2, .mv (.c (.int .u64 0)), none, 0, []⟩,
    ⟨some 3, .mv (.c (.int .i64 14)), none, 0, []⟩])
  (.ret)))
  (.skip)))
  (.seq (.seq (.reg false [0, 4, 5, 6, 7, 41] [⟨some 28, .mv (.t 6), none, 0, []⟩,
    ⟨some 29, .bin .eql .num (.t 28) (.c (.int .i64 9)), none, 0, []⟩,
    ⟨some 30, .mv (.t 29), none, 0, []⟩,
    ⟨some 31, .mv (.t 7), some (30, true), 0, []⟩,
    ⟨some 32, .bin .gtr .num (.t 31) (.c (.int .u64 1)), some (30, true), 0, []⟩,
    ⟨some 33, .pick (.t 30) (.t 32) (.c (.bool false)), none, 0, []⟩,
    ⟨some 34, .mv (.t 33), none, 0, []⟩,
    ⟨some 35, .mv (.t 6), some (34, false), 0, []⟩,
    ⟨some 36, .bin .gtr .num (.t 35) (.c (.int .i64 0)), some (34, false), 0, []⟩,
    ⟨some 37, .mv (.t 36), some (34, false), 0, []⟩,
    ⟨some 38, .mv (.t 7), some (37, true), 0, []⟩,
    ⟨some 39, .bin .eql .num (.t 38) (.c (.int .u64 0)), some (37, true), 0, []⟩,
    ⟨some 40, .pick (.t 37) (.t 39) (.c (.bool false)), some (34, false), 0, []⟩,
    ⟨some 41, .pick (.t 34) (.c (.bool true)) (.t 40), none, 0, []⟩])
  (.cond (.t 41) (.seq (.reg false [] [⟨some 42, .mv (.t 0), none, 0, []⟩,
    ⟨some 43, .mv (.t 4), none, 0, []⟩,
    ⟨some 44, .nilck (.t 42), none, 0, []⟩,
    ⟨some 45, .fad 1 (.t 44), none, 0, []⟩,
    ⟨none, .store 1 (.t 45) (.t 43), none, 0, []⟩])
  (.seq (.reg false [2, 3] [⟨some 2, .mv (.c (.int .u64 0)), none, 0, []⟩,
    ⟨some 3, .mv (.c (.int .i64 16)), none, 0, []⟩])
  (.ret)))
  (.skip)))
  (.seq (.reg false [0, 4, 5, 6, 7] [⟨some 46, .mv (.t 5), none, 0, []⟩,
    ⟨some 47, .mv (.t 7), none, 0, []⟩,
    ⟨some 48, .bin .rem .num (.t 47) (.c (.int .u64 128)), none, 0, []⟩,
    ⟨some 49, .mv (.t 6), none, 0, []⟩,
    ⟨some 50, .bin .mul .num (.c (.int .i64 7)) (.t 49), none, 0, []⟩,
    ⟨some 51, .conv .u64 (.t 50), none, 0, []⟩,
    ⟨some 52, .bin .shl .num (.t 48) (.t 51), none, 0, []⟩,
    ⟨some 53, .bin .add .num (.t 46) (.t 52), none, 0, []⟩,
    ⟨some 5, .mv (.t 53), none, 0, []⟩])
  (.seq (.reg false [0, 4, 5, 6, 55] [⟨some 54, .mv (.t 7), none, 0, []⟩,
    ⟨some 55, .bin .lss .num (.t 54) (.c (.int .u64 128)), none, 0, []⟩])
  (.cond (.t 55) (.seq (.reg false [2, 3] [⟨some 56, .mv (.t 5), none, 0, []⟩,
    ⟨some 2, .mv (.t 56), none, 0, []⟩,
    ⟨some 3, .mv (.c (.int .i64 0)), none, 0, []⟩])
  (.ret))
  (.skip))))))))
  (.reg false [0, 4, 5, 6] [⟨some 15, .mv (.t 6), none, 0, []⟩,
    ⟨some 16, .bin .add .num (.t 15) (.c (.int .i64 1)), none, 0, []⟩,
    ⟨some 6, .mv (.t 16), none, 0, []⟩]))
/-- (*burin/burinref1.Reader).Var -/
def burinref1_Reader_Var : AFun := ⟨1, 61, true, [.t 2, .t 3],
  .seq (.reg false [0] [⟨some 2, .mv (.c (.int .u64 0)), none, 0, []⟩,
    ⟨some 3, .mv (.c (.int .i64 0)), none, 0, []⟩])
  (.seq (.reg false [0, 4] [⟨some 9, .mv (.t 0), none, 0, []⟩,
    ⟨some 10, .nilck (.t 9), none, 0, []⟩,
    ⟨some 11, .fad 1 (.t 10), none, 0, []⟩,
    ⟨some 12, .load none (.t 11), none, 0, []⟩,
    ⟨some 4, .mv (.t 12), none, 0, []⟩])
  (.seq (.reg false [0, 4, 5] [⟨some 5, .mv (.c (.int .u64 0)), none, 0, []⟩])
  (.seq (.seq (.reg false [0, 4, 5, 6] [⟨some 6, .mv (.c (.int .i64 0)), none, 0, []⟩])
  (.block 0 (.loop [0, 4, 5, 6] burinref1_Reader_Var_l0)))
  (.seq (.reg false [] [⟨some 57, .mv (.t 0), none, 0, []⟩,
    ⟨some 58, .mv (.t 4), none, 0, []⟩,
    ⟨some 59, .nilck (.t 57), none, 0, []⟩,
    ⟨some 60, .fad 1 (.t 59), none, 0, []⟩,
    ⟨none, .store 1 (.t 60) (.t 58), none, 0, []⟩])
  (.seq (.reg false [2, 3] [⟨some 2, .mv (.c (.int .u64 0)), none, 0, []⟩,
    ⟨some 3, .mv (.c (.int .i64 16)), none, 0, []⟩])
  (.ret))))))⟩

def burinref1_Reader_Align_l0 : Cd := .seq (.seq (.reg false [0, 3, 15] [⟨some 10, .mv (.t 0), none, 0, []⟩,
    ⟨some 11, .nilck (.t 10), none, 0, []⟩,
    ⟨some 12, .fad 1 (.t 11), none, 0, []⟩,
    ⟨some 13, .load none (.t 12), none, 0, []⟩,
    ⟨some 14, .bin .rem .num (.t 13) (.c (.int .i64 8)), none, 0, []⟩,
    ⟨some 15, .bin .gtr .num (.t 14) (.c (.int .i64 0)), none, 0, []⟩])
  (.cond (.t 15) (.skip)
  (.exit 0)))
  (.block 1 (.seq (.reg false [0, 3, 4] [⟨some 17, .mv (.t 0), none, 0, []⟩,
    ⟨some 18, .call (.f 23) [(.t 17), (.c (.int .i64 1))], none, 0, []⟩,
    ⟨some 16, .mv (.t 18), none, 0, []⟩,
    ⟨some 19, .ext 0 (.t 16), none, 0, []⟩,
    ⟨some 20, .ext 1 (.t 16), none, 0, []⟩,
    ⟨some 4, .mv (.t 19), none, 0, []⟩,
    ⟨some 5, .mv (.t 20), none, 0, []⟩])
  (.seq (.reg false [0, 3, 22] [⟨some 21, .mv (.t 4), none, 0, []⟩,
    ⟨some 22, .bin .eql .num (.t 21) (.c (.int .u64 1)), none, 0, []⟩])
  (.cond (.t 22) (.seq (.reg false [] [⟨some 23, .mv (.t 0), none, 0, []⟩,
    ⟨some 24, .mv (.t 3), none, 0, []⟩,
    ⟨some 25, .nilck (.t 23), none, 0, []⟩,
    ⟨some 26, .fad 1 (.t 25), none, 0, []⟩,
    ⟨none, .store 1 (.t 26) (.t 24), none, 0, []⟩])
  (.seq (.reg false [2] [⟨some 2, .mv (.c (.int .i64 15)), none, 0, []⟩])
  (.ret)))
  (.skip)))))
/-- (*burin/burinref1.Reader).Align -/
def burinref1_Reader_Align : AFun := ⟨1, 27, true, [.t 2],
  .seq (.reg false [0] [⟨some 2, .mv (.c (.int .i64 0)), none, 0, []⟩])
  (.seq (.reg false [0, 3] [⟨some 6, .mv (.t 0), none, 0, []⟩,
    ⟨some 7, .nilck (.t 6), none, 0, []⟩,
    ⟨some 8, .fad 1 (.t 7), none, 0, []⟩,
    ⟨some 9, .load none (.t 8), none, 0, []⟩,
    ⟨some 3, .mv (.t 9), none, 0, []⟩])
  (.seq (.block 0 (.loop [0, 3] burinref1_Reader_Align_l0))
  (.seq (.reg false [2] [⟨some 2, .mv (.c (.int .i64 0)), none, 0, []⟩])
  (.ret))))⟩

/-- A program that has them. -/
structure HasRefBits (P : Prog) : Prop where
  h_burinref1_Writer_Put : P 17 = some burinref1_Writer_Put
  h_burinref1_Groups : P 18 = some burinref1_Groups
  h_burinref1_Writer_Var : P 19 = some burinref1_Writer_Var
  h_burinref1_Writer_Align : P 20 = some burinref1_Writer_Align
  h_burinref1_Writer_Bytes : P 21 = some burinref1_Writer_Bytes
  h_burinref1_Reader_Left : P 22 = some burinref1_Reader_Left
  h_burinref1_Reader_Take : P 23 = some burinref1_Reader_Take
  h_burinref1_Reader_Var : P 24 = some burinref1_Reader_Var
  h_burinref1_Reader_Align : P 25 = some burinref1_Reader_Align

end Go.Ab
