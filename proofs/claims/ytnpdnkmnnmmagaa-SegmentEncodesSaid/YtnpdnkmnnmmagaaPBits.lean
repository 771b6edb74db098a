/- The texts of functions of the given program, for the abstract machine: written by wip/tools/gen.py out of Lean's print of the translation. Conditions: none; definitions alone. -/
import Derived.Test.YtnpdnkmnnmmagaaK1
set_option linter.all false
namespace Go.Ab
-- bits_lay_uint8: 0, parameters b at n width; loops bits_lay_uint8_l0 [0 b, 1 at, 2 n, 9 i]
-- bits_lay_uint64: 1, parameters b at n width; loops bits_lay_uint64_l0 [0 b, 1 at, 2 n, 9 i]
-- bits_told_uint64: 2, parameters b at width; loops bits_told_uint64_l0 [0 b, 1 at, 7 n, 9 , 10 ]
-- bits_told_uint8: 3, parameters b at width; loops bits_told_uint8_l0 [0 b, 1 at, 7 n, 9 , 10 ]
-- bits_NewWriter: 4, parameters most; loops 
-- bits_Writer_Put: 5, parameters w n width; loops 
-- bits_Writer_Var: 6, parameters ? ?; loops bits_Writer_Var_l0 [0 ?, 1 ?, 5 ?, 29 ?, 30 ?]; bits_Writer_Var_l1 [0 ?, 1 ?, 5 ?, 6 ?]
-- bits_Writer_Align: 7, parameters w; loops 
-- bits_Writer_Len: 8, parameters w; loops 
-- bits_Writer_Bytes: 9, parameters w; loops 
-- bits_NewReader: 10, parameters b; loops 
-- bits_Reader_Left: 11, parameters r; loops 
-- bits_Reader_Take: 12, parameters r width; loops 
-- bits_Reader_group: 13, parameters r; loops 
-- bits_Reader_Var_1: 14, parameters    ; loops 
-- bits_Reader_Var: 15, parameters r; loops bits_Reader_Var_l0 [1 r, 2 n, 3 err, 5 shift]
-- bits_Reader_Align: 16, parameters r; loops 

def bits_lay_uint8_l0 : Cd := .seq (.seq (.reg false [0, 1, 2, 9, 13] [⟨some 12, .mv (.t 9), none, 0, []⟩,
    ⟨some 13, .bin .geq .num (.t 12) (.c (.int .i64 0)), none, 0, []⟩])
  (.cond (.t 13) (.skip)
  (.exit 0)))
  (.seq (.block 1 (.seq (.seq (.reg false [0, 1, 2, 9, 18] [⟨some 16, .mv (.t 1), none, 0, []⟩,
    ⟨some 17, .bin .rem .num (.t 16) (.c (.int .i64 8)), none, 0, []⟩,
    ⟨some 18, .bin .eql .num (.t 17) (.c (.int .i64 0)), none, 0, []⟩])
  (.cond (.t 18) (.reg false [0, 1, 2, 9] [⟨some 19, .mv (.t 0), none, 0, []⟩,
    ⟨some 20, .bslice 1 [.int .u8 0] 1 [(0, (.c (.int .u8 0)))], none, 0, []⟩,
    ⟨some 21, .append 1 1 (.t 19) (.t 20), none, 0, []⟩,
    ⟨some 0, .mv (.t 21), none, 0, []⟩])
  (.skip)))
  (.seq (.reg true [0, 1, 2, 9] [⟨some 22, .mv (.t 0), none, 0, []⟩,
    ⟨some 23, .mv (.t 1), none, 1, []⟩,
    ⟨some 24, .bin .quo .num (.t 23) (.c (.int .i64 8)), none, 2, []⟩,
    ⟨some 25, .iad none 1 (.t 22) (.t 24), none, 3, []⟩,
    ⟨some 26, .load none (.t 25), none, 4, []⟩,
    ⟨some 27, .mv (.t 2), none, 5, []⟩,
    ⟨some 28, .mv (.t 9), none, 6, []⟩,
    ⟨some 29, .bin .shr .num (.t 27) (.t 28), none, 7, []⟩,
    ⟨some 30, .bin .and .num (.t 29) (.c (.int .u8 1)), none, 8, []⟩,
    ⟨some 31, .mv (.t 1), none, 9, []⟩,
    ⟨some 32, .bin .rem .num (.t 31) (.c (.int .i64 8)), none, 10, []⟩,
    ⟨some 33, .bin .sub .num (.c (.int .i64 7)) (.t 32), none, 11, []⟩,
    ⟨some 34, .bin .shl .num (.t 30) (.t 33), none, 12, []⟩,
    ⟨some 35, .bin .or .num (.t 26) (.t 34), none, 13, []⟩,
    ⟨some 36, .iad none 1 (.t 22) (.t 24), none, 14, []⟩,
    ⟨none, .store 1 (.t 36) (.t 35), none, 15, []⟩])
  (.reg false [0, 1, 2, 9] [⟨some 37, .mv (.t 1), none, 0, []⟩,
    ⟨some 38, .bin .add .num (.t 37) (.c (.int .i64 1)), none, 0, []⟩,
    ⟨some 1, .mv (.t 38), none, 0, []⟩]))))
  (.reg false [0, 1, 2, 9] [⟨some 14, .mv (.t 9), none, 0, []⟩,
    ⟨some 15, .bin .sub .num (.t 14) (.c (.int .i64 1)), none, 0, []⟩,
    ⟨some 9, .mv (.t 15), none, 0, []⟩]))
/-- burin/bits.lay[uint8] -/
def bits_lay_uint8 : AFun := ⟨4, 40, true, [.t 8],
  .seq (.reg false [0, 1, 2, 3] [⟨some 8, .mv (.c (.sl none 0 0 0)), none, 0, []⟩])
  (.seq (.seq (.reg false [0, 1, 2, 9] [⟨some 10, .mv (.t 3), none, 0, []⟩,
    ⟨some 11, .bin .sub .num (.t 10) (.c (.int .i64 1)), none, 0, []⟩,
    ⟨some 9, .mv (.t 11), none, 0, []⟩])
  (.block 0 (.loop [0, 1, 2, 9] bits_lay_uint8_l0)))
  (.seq (.reg false [8] [⟨some 39, .mv (.t 0), none, 0, []⟩,
    ⟨some 8, .mv (.t 39), none, 0, []⟩])
  (.ret)))⟩

def bits_lay_uint64_l0 : Cd := .seq (.seq (.reg false [0, 1, 2, 9, 13] [⟨some 12, .mv (.t 9), none, 0, []⟩,
    ⟨some 13, .bin .geq .num (.t 12) (.c (.int .i64 0)), none, 0, []⟩])
  (.cond (.t 13) (.skip)
  (.exit 0)))
  (.seq (.block 1 (.seq (.seq (.reg false [0, 1, 2, 9, 18] [⟨some 16, .mv (.t 1), none, 0, []⟩,
    ⟨some 17, .bin .rem .num (.t 16) (.c (.int .i64 8)), none, 0, []⟩,
    ⟨some 18, .bin .eql .num (.t 17) (.c (.int .i64 0)), none, 0, []⟩])
  (.cond (.t 18) (.reg false [0, 1, 2, 9] [⟨some 19, .mv (.t 0), none, 0, []⟩,
    ⟨some 20, .bslice 1 [.int .u8 0] 1 [(0, (.c (.int .u8 0)))], none, 0, []⟩,
    ⟨some 21, .append 1 1 (.t 19) (.t 20), none, 0, []⟩,
    ⟨some 0, .mv (.t 21), none, 0, []⟩])
  (.skip)))
  (.seq (.reg true [0, 1, 2, 9] [⟨some 22, .mv (.t 0), none, 0, []⟩,
    ⟨some 23, .mv (.t 1), none, 1, []⟩,
    ⟨some 24, .bin .quo .num (.t 23) (.c (.int .i64 8)), none, 2, []⟩,
    ⟨some 25, .iad none 1 (.t 22) (.t 24), none, 3, []⟩,
    ⟨some 26, .load none (.t 25), none, 4, []⟩,
    ⟨some 27, .mv (.t 2), none, 5, []⟩,
    ⟨some 28, .mv (.t 9), none, 6, []⟩,
    ⟨some 29, .bin .shr .num (.t 27) (.t 28), none, 7, []⟩,
    ⟨some 30, .bin .and .num (.t 29) (.c (.int .u64 1)), none, 8, []⟩,
    ⟨some 31, .conv .u8 (.t 30), none, 9, []⟩,
    ⟨some 32, .mv (.t 1), none, 10, []⟩,
    ⟨some 33, .bin .rem .num (.t 32) (.c (.int .i64 8)), none, 11, []⟩,
    ⟨some 34, .bin .sub .num (.c (.int .i64 7)) (.t 33), none, 12, []⟩,
    ⟨some 35, .bin .shl .num (.t 31) (.t 34), none, 13, []⟩,
    ⟨some 36, .bin .or .num (.t 26) (.t 35), none, 14, []⟩,
    ⟨some 37, .iad none 1 (.t 22) (.t 24), none, 15, []⟩,
    ⟨none, .store 1 (.t 37) (.t 36), none, 16, []⟩])
  (.reg false [0, 1, 2, 9] [⟨some 38, .mv (.t 1), none, 0, []⟩,
    ⟨some 39, .bin .add .num (.t 38) (.c (.int .i64 1)), none, 0, []⟩,
    ⟨some 1, .mv (.t 39), none, 0, []⟩]))))
  (.reg false [0, 1, 2, 9] [⟨some 14, .mv (.t 9), none, 0, []⟩,
    ⟨some 15, .bin .sub .num (.t 14) (.c (.int .i64 1)), none, 0, []⟩,
    ⟨some 9, .mv (.t 15), none, 0, []⟩]))
/-- burin/bits.lay[uint64] -/
def bits_lay_uint64 : AFun := ⟨4, 41, true, [.t 8],
  .seq (.reg false [0, 1, 2, 3] [⟨some 8, .mv (.c (.sl none 0 0 0)), none, 0, []⟩])
  (.seq (.seq (.reg false [0, 1, 2, 9] [⟨some 10, .mv (.t 3), none, 0, []⟩,
    ⟨some 11, .bin .sub .num (.t 10) (.c (.int .i64 1)), none, 0, []⟩,
    ⟨some 9, .mv (.t 11), none, 0, []⟩])
  (.block 0 (.loop [0, 1, 2, 9] bits_lay_uint64_l0)))
  (.seq (.reg false [8] [⟨some 40, .mv (.t 0), none, 0, []⟩,
    ⟨some 8, .mv (.t 40), none, 0, []⟩])
  (.ret)))⟩

def bits_told_uint64_l0 : Cd := .seq (.reg false [0, 1, 7, 9, 10, 11] [⟨some 11, .bin .lss .num (.t 10) (.t 9), none, 0, []⟩])
  (.seq (.cond (.t 11) (.skip)
  (.exit 0))
  (.seq (.block 1 (.seq (.reg false [0, 1, 7, 8, 9, 10] [⟨some 12, .mv (.t 10), none, 0, []⟩,
    ⟨some 8, .mv (.t 12), none, 0, []⟩])
  (.reg false [0, 1, 7, 9, 10] [⟨some 13, .mv (.t 7), none, 0, []⟩,
    ⟨some 14, .bin .shl .num (.t 13) (.c (.int .u64 1)), none, 0, []⟩,
    ⟨some 15, .mv (.t 0), none, 0, []⟩,
    ⟨some 16, .mv (.t 1), none, 0, []⟩,
    ⟨some 17, .mv (.t 8), none, 0, []⟩,
    ⟨some 18, .bin .add .num (.t 16) (.t 17), none, 0, []⟩,
    ⟨some 19, .bin .quo .num (.t 18) (.c (.int .i64 8)), none, 0, []⟩,
    ⟨some 20, .iad none 1 (.t 15) (.t 19), none, 0, []⟩,
    ⟨some 21, .load none (.t 20), none, 0, []⟩,
    ⟨some 22, .mv (.t 1), none, 0, []⟩,
    ⟨some 23, .mv (.t 8), none, 0, []⟩,
    ⟨some 24, .bin .add .num (.t 22) (.t 23), none, 0, []⟩,
    ⟨some 25, .bin .rem .num (.t 24) (.c (.int .i64 8)), none, 0, []⟩,
    ⟨some 26, .bin .sub .num (.c (.int .i64 7)) (.t 25), none, 0, []⟩,
    ⟨some 27, .bin .shr .num (.t 21) (.t 26), none, 0, []⟩,
    ⟨some 28, .bin .and .num (.t 27) (.c (.int .u8 1)), none, 0, []⟩,
    ⟨some 29, .conv .u64 (.t 28), none, 0, []⟩,
    ⟨some 30, .bin .or .num (.t 14) (.t 29), none, 0, []⟩,
    ⟨some 7, .mv (.t 30), none, 0, []⟩])))
  (.reg false [0, 1, 7, 9, 10] [⟨some 31, .bin .add .num (.t 10) (.c (.int .i64 1)), none, 0, []⟩,
    ⟨some 10, .mv (.t 31), none, 0, []⟩])))
/-- burin/bits.told[uint64] -/
def bits_told_uint64 : AFun := ⟨3, 33, true, [.t 6],
  .seq (.reg false [0, 1, 2] [⟨some 6, .mv (.c (.int .u64 0)), none, 0, []⟩])
  (.seq (.reg false [0, 1, 2, 7] [⟨some 7, .mv (.c (.int .u64 0)), none, 0, []⟩])
  (.seq (.seq (.reg false [0, 1, 7, 9, 10] [⟨some 9, .mv (.t 2), none, 0, []⟩,
    ⟨some 10, .mv (.c (.int .i64 0)), none, 0, []⟩])
  (.block 0 (.loop [0, 1, 7, 9, 10] bits_told_uint64_l0)))
  (.seq (.reg false [6] [⟨some 32, .mv (.t 7), none, 0, []⟩,
    ⟨some 6, .mv (.t 32), none, 0, []⟩])
  (.ret))))⟩

def bits_told_uint8_l0 : Cd := .seq (.reg false [0, 1, 7, 9, 10, 11] [⟨some 11, .bin .lss .num (.t 10) (.t 9), none, 0, []⟩])
  (.seq (.cond (.t 11) (.skip)
  (.exit 0))
  (.seq (.block 1 (.seq (.reg false [0, 1, 7, 8, 9, 10] [⟨some 12, .mv (.t 10), none, 0, []⟩,
    ⟨some 8, .mv (.t 12), none, 0, []⟩])
  (.reg false [0, 1, 7, 9, 10] [⟨some 13, .mv (.t 7), none, 0, []⟩,
    ⟨some 14, .bin .shl .num (.t 13) (.c (.int .u64 1)), none, 0, []⟩,
    ⟨some 15, .mv (.t 0), none, 0, []⟩,
    ⟨some 16, .mv (.t 1), none, 0, []⟩,
    ⟨some 17, .mv (.t 8), none, 0, []⟩,
    ⟨some 18, .bin .add .num (.t 16) (.t 17), none, 0, []⟩,
    ⟨some 19, .bin .quo .num (.t 18) (.c (.int .i64 8)), none, 0, []⟩,
    ⟨some 20, .iad none 1 (.t 15) (.t 19), none, 0, []⟩,
    ⟨some 21, .load none (.t 20), none, 0, []⟩,
    ⟨some 22, .mv (.t 1), none, 0, []⟩,
    ⟨some 23, .mv (.t 8), none, 0, []⟩,
    ⟨some 24, .bin .add .num (.t 22) (.t 23), none, 0, []⟩,
    ⟨some 25, .bin .rem .num (.t 24) (.c (.int .i64 8)), none, 0, []⟩,
    ⟨some 26, .bin .sub .num (.c (.int .i64 7)) (.t 25), none, 0, []⟩,
    ⟨some 27, .bin .shr .num (.t 21) (.t 26), none, 0, []⟩,
    ⟨some 28, .bin .and .num (.t 27) (.c (.int .u8 1)), none, 0, []⟩,
    ⟨some 29, .bin .or .num (.t 14) (.t 28), none, 0, []⟩,
    ⟨some 7, .mv (.t 29), none, 0, []⟩])))
  (.reg false [0, 1, 7, 9, 10] [⟨some 30, .bin .add .num (.t 10) (.c (.int .i64 1)), none, 0, []⟩,
    ⟨some 10, .mv (.t 30), none, 0, []⟩])))
/-- burin/bits.told[uint8] -/
def bits_told_uint8 : AFun := ⟨3, 32, true, [.t 6],
  .seq (.reg false [0, 1, 2] [⟨some 6, .mv (.c (.int .u8 0)), none, 0, []⟩])
  (.seq (.reg false [0, 1, 2, 7] [⟨some 7, .mv (.c (.int .u8 0)), none, 0, []⟩])
  (.seq (.seq (.reg false [0, 1, 7, 9, 10] [⟨some 9, .mv (.t 2), none, 0, []⟩,
    ⟨some 10, .mv (.c (.int .i64 0)), none, 0, []⟩])
  (.block 0 (.loop [0, 1, 7, 9, 10] bits_told_uint8_l0)))
  (.seq (.reg false [6] [⟨some 31, .mv (.t 7), none, 0, []⟩,
    ⟨some 6, .mv (.t 31), none, 0, []⟩])
  (.ret))))⟩

/-- burin/bits.NewWriter -/
def bits_NewWriter : AFun := ⟨1, 14, true, [.t 2, .t 3],
  .seq (.reg false [0] [⟨some 2, .mv (.c (.ptr none)), none, 0, []⟩,
    ⟨some 3, .mv (.c (.int .i64 0)), none, 0, []⟩])
  (.seq (.seq (.reg false [0, 9] [⟨some 4, .mv (.t 0), none, 0, []⟩,
    ⟨some 5, .bin .lss .num (.t 4) (.c (.int .i64 0)), none, 0, []⟩,
    ⟨some 6, .mv (.t 5), none, 0, []⟩,
    ⟨some 7, .mv (.t 0), some (6, false), 0, []⟩,
    ⟨some 8, .bin .gtr .num (.t 7) (.c (.int .i64 67108864)), some (6, false), 0, []⟩,
    ⟨some 9, .pick (.t 6) (.c (.bool true)) (.t 8), none, 0, []⟩])
  (.cond (.t 9) (.seq (.reg false [2, 3] [⟨some 2, .mv (.c (.ptr none)), none, 0, []⟩,
    ⟨some 3, .mv (.c (.int .i64 10)), none, 0, []⟩])
  (.ret))
  (.skip)))
  (.seq (.reg false [2, 3] [⟨some 10, .mv (.t 0), none, 0, []⟩,
    ⟨some 11, .bin .mul .num (.c (.int .i64 8)) (.t 10), none, 0, []⟩,
    ⟨some 12, .build [.sl none 0 0 0, .int .i64 0, .int .i64 0] [(2, 1, (.t 11))], none, 0, []⟩,
    ⟨some 13, .box 3 (.t 12), none, 0, []⟩,
    ⟨some 2, .mv (.t 13), none, 0, []⟩,
    ⟨some 3, .mv (.c (.int .i64 0)), none, 0, []⟩])
  (.ret)))⟩

/-- (*burin/bits.Writer).Put -/
def bits_Writer_Put : AFun := ⟨3, 57, true, [.t 6],
  .seq (.reg false [0, 1, 2] [⟨some 6, .mv (.c (.int .i64 0)), none, 0, []⟩])
  (.seq (.block 0 (.seq (.reg false [0, 1, 2, 7] [⟨some 8, .mv (.t 2), none, 0, []⟩,
    ⟨some 9, .bin .lss .num (.t 8) (.c (.int .i64 0)), none, 0, []⟩,
    ⟨some 10, .mv (.t 9), none, 0, []⟩,
    ⟨some 11, .mv (.t 2), some (10, false), 0, []⟩,
    ⟨some 12, .bin .gtr .num (.t 11) (.c (.int .i64 64)), some (10, false), 0, []⟩,
    ⟨some 13, .pick (.t 10) (.c (.bool true)) (.t 12), none, 0, []⟩,
    ⟨some 7, .mv (.t 13), none, 0, []⟩])
  (.cond (.t 7) (.seq (.reg false [6] [⟨some 6, .mv (.c (.int .i64 11)), none, 0, []⟩])
  (.ret))
  (.seq (.reg false [0, 1, 2, 14] [⟨some 15, .mv (.t 2), none, 0, []⟩,
    ⟨some 16, .bin .lss .num (.t 15) (.c (.int .i64 64)), none, 0, []⟩,
    ⟨some 17, .mv (.t 16), none, 0, []⟩,
    ⟨some 18, .mv (.t 1), some (17, true), 0, []⟩,
    ⟨some 19, .mv (.t 2), some (17, true), 0, []⟩,
    ⟨some 20, .bin .shr .num (.t 18) (.t 19), some (17, true), 0, []⟩,
    ⟨some 21, .bin .neq .num (.t 20) (.c (.int .u64 0)), some (17, true), 0, []⟩,
    ⟨some 22, .pick (.t 17) (.t 21) (.c (.bool false)), none, 0, []⟩,
    ⟨some 14, .mv (.t 22), none, 0, []⟩])
  (.cond (.t 14) (.seq (.reg false [6] [⟨some 6, .mv (.c (.int .i64 12)), none, 0, []⟩])
  (.ret))
  (.seq (.reg true [0, 1, 2, 23] [⟨some 24, .mv (.t 0), none, 0, []⟩,
    ⟨some 25, .nilck (.t 24), none, 1, []⟩,
    ⟨some 26, .fad 1 (.t 25), none, 2, []⟩,
    ⟨some 27, .load none (.t 26), none, 3, []⟩,
    ⟨some 28, .mv (.t 2), none, 4, []⟩,
    ⟨some 29, .bin .add .num (.t 27) (.t 28), none, 5, []⟩,
    ⟨some 30, .mv (.t 0), none, 6, []⟩,
    ⟨some 31, .nilck (.t 30), none, 7, []⟩,
    ⟨some 32, .fad 2 (.t 31), none, 8, []⟩,
    ⟨some 33, .load none (.t 32), none, 9, []⟩,
    ⟨some 34, .bin .gtr .num (.t 29) (.t 33), none, 10, []⟩,
    ⟨some 23, .mv (.t 34), none, 11, []⟩])
  (.cond (.t 23) (.seq (.reg false [6] [⟨some 6, .mv (.c (.int .i64 13)), none, 0, []⟩])
  (.ret))
  (.skip))))))))
  (.seq (.reg true [0, 2] [⟨some 35, .mv (.t 0), none, 0, []⟩,
    ⟨some 36, .mv (.t 0), none, 1, []⟩,
    ⟨some 37, .nilck (.t 36), none, 2, []⟩,
    ⟨some 38, .fad 0 (.t 37), none, 3, []⟩,
    ⟨some 39, .load none (.t 38), none, 4, []⟩,
    ⟨some 40, .mv (.t 0), none, 5, []⟩,
    ⟨some 41, .nilck (.t 40), none, 6, []⟩,
    ⟨some 42, .fad 1 (.t 41), none, 7, []⟩,
    ⟨some 43, .load none (.t 42), none, 8, []⟩,
    ⟨some 44, .mv (.t 1), none, 9, []⟩,
    ⟨some 45, .mv (.t 2), none, 10, []⟩,
    ⟨some 46, .call (.f 1) [(.t 39), (.t 43), (.t 44), (.t 45)], none, 11, []⟩,
    ⟨some 47, .nilck (.t 35), none, 12, []⟩,
    ⟨some 48, .fad 0 (.t 47), none, 13, []⟩,
    ⟨none, .store 1 (.t 48) (.t 46), none, 14, []⟩])
  (.seq (.reg false [] [⟨some 49, .mv (.t 0), none, 0, []⟩,
    ⟨some 50, .nilck (.t 49), none, 0, []⟩,
    ⟨some 51, .fad 1 (.t 50), none, 0, []⟩,
    ⟨some 52, .load none (.t 51), none, 0, []⟩,
    ⟨some 53, .mv (.t 2), none, 0, []⟩,
    ⟨some 54, .bin .add .num (.t 52) (.t 53), none, 0, []⟩,
    ⟨some 55, .nilck (.t 49), none, 0, []⟩,
    ⟨some 56, .fad 1 (.t 55), none, 0, []⟩,
    ⟨none, .store 1 (.t 56) (.t 54), none, 0, []⟩])
  (.seq (.reg false [6] [⟨some 6, .mv (.c (.int .i64 0)), none, 0, []⟩])
  (.ret)))))⟩

def bits_Writer_Var_l1 : Cd := .seq (.seq (.reg false [0, 1, 5, 6, 12] [⟨some 11, .mv (.t 6), none, 0, []⟩,
    ⟨some 12, .bin .gtr .num (.t 11) (.c (.int .u64 0)), none, 0, []⟩])
  (.cond (.t 12) (.skip)
  (.exit 0)))
  (.seq (.block 1 (.reg false [0, 1, 5, 6] [⟨some 15, .mv (.t 5), none, 0, []⟩,
    ⟨some 16, .bin .add .num (.t 15) (.c (.int .i64 1)), none, 0, []⟩,
    ⟨some 5, .mv (.t 16), none, 0, []⟩]))
  (.reg false [0, 1, 5, 6] [⟨some 13, .mv (.t 6), none, 0, []⟩,
    ⟨some 14, .bin .shr .num (.t 13) (.c (.int .u64 7)), none, 0, []⟩,
    ⟨some 6, .mv (.t 14), none, 0, []⟩]))
def bits_Writer_Var_l0 : Cd := .seq (.reg false [0, 1, 5, 29, 30, 31] [⟨some 31, .bin .lss .num (.t 30) (.t 29), none, 0, []⟩])
  (.seq (.cond (.t 31) (.skip)
  (.exit 2))
  (.seq (.block 3 (.seq (.reg false [0, 1, 5, 7, 29, 30] [⟨some 32, .mv (.t 30), none, 0, []⟩,
    ⟨some 7, .mv (.t 32), none, 0, []⟩])
  (.seq (.reg false [0, 1, 5, 7, 8, 29, 30] [⟨some 33, .mv (.t 1), none, 0, []⟩,
    ⟨some 34, .mv (.t 7), none, 0, []⟩,
    ⟨some 35, .bin .mul .num (.c (.int .i64 7)) (.t 34), none, 0, []⟩,
    ⟨some 36, .bin .shr .num (.t 33) (.t 35), none, 0, []⟩,
    ⟨some 37, .conv .u8 (.t 36), none, 0, []⟩,
    ⟨some 38, .bin .and .num (.t 37) (.c (.int .u8 127)), none, 0, []⟩,
    ⟨some 8, .mv (.t 38), none, 0, []⟩])
  (.seq (.seq (.reg false [0, 1, 5, 8, 29, 30, 42] [⟨some 39, .mv (.t 7), none, 0, []⟩,
    ⟨some 40, .mv (.t 5), none, 0, []⟩,
    ⟨some 41, .bin .sub .num (.t 40) (.c (.int .i64 1)), none, 0, []⟩,
    ⟨some 42, .bin .lss .num (.t 39) (.t 41), none, 0, []⟩])
  (.cond (.t 42) (.reg false [0, 1, 5, 8, 29, 30] [⟨some 43, .mv (.t 8), none, 0, []⟩,
    ⟨some 44, .bin .or .num (.t 43) (.c (.int .u8 128)), none, 0, []⟩,
    ⟨some 8, .mv (.t 44), none, 0, []⟩])
  (.skip)))
  (.seq (.reg true [0, 1, 5, 29, 30] [⟨some 45, .mv (.t 0), none, 0, []⟩,
    ⟨some 46, .mv (.t 0), none, 1, []⟩,
    ⟨some 47, .nilck (.t 46), none, 2, []⟩,
    ⟨some 48, .fad 0 (.t 47), none, 3, []⟩,
    ⟨some 49, .load none (.t 48), none, 4, []⟩,
    ⟨some 50, .mv (.t 0), none, 5, []⟩,
    ⟨some 51, .nilck (.t 50), none, 6, []⟩,
    ⟨some 52, .fad 1 (.t 51), none, 7, []⟩,
    ⟨some 53, .load none (.t 52), none, 8, []⟩,
    ⟨some 54, .mv (.t 8), none, 9, []⟩,
    ⟨some 55, .call (.f 0) [(.t 49), (.t 53), (.t 54), (.c (.int .i64 8))], none, 10, []⟩,
    ⟨some 56, .nilck (.t 45), none, 11, []⟩,
    ⟨some 57, .fad 0 (.t 56), none, 12, []⟩,
    ⟨none, .store 1 (.t 57) (.t 55), none, 13, []⟩])
  (.reg false [0, 1, 5, 29, 30] [⟨some 58, .mv (.t 0), none, 0, []⟩,
    ⟨some 59, .nilck (.t 58), none, 0, []⟩,
    ⟨some 60, .fad 1 (.t 59), none, 0, []⟩,
    ⟨some 61, .load none (.t 60), none, 0, []⟩,
    ⟨some 62, .bin .add .num (.t 61) (.c (.int .i64 8)), none, 0, []⟩,
    ⟨some 63, .nilck (.t 58), none, 0, []⟩,
    ⟨some 64, .fad 1 (.t 63), none, 0, []⟩,
    ⟨none, .store 1 (.t 64) (.t 62), none, 0, []⟩]))))))
  (.reg false [0, 1, 5, 29, 30] [⟨some 65, .bin .add .num (.t 30) (.c (.int .i64 1)), none, 0, []⟩,
    ⟨some 30, .mv (.t 65), none, 0, []⟩])))
/-- (*burin/bits.Writer).Var -/
def bits_Writer_Var : AFun := ⟨2, 66, true, [.t 4],
  .seq (.reg false [0, 1] [⟨some 4, .mv (.c (.int .i64 0)), none, 0, []⟩])
  (.seq (.reg false [0, 1, 5] [⟨some 5, .mv (.c (.int .i64 1)), none, 0, []⟩])
  (.seq (.seq (.reg false [0, 1, 5, 6] [⟨some 9, .mv (.t 1), none, 0, []⟩,
    ⟨some 10, .bin .shr .num (.t 9) (.c (.int .u64 7)), none, 0, []⟩,
    ⟨some 6, .mv (.t 10), none, 0, []⟩])
  (.block 0 (.loop [0, 1, 5, 6] bits_Writer_Var_l1)))
  (.seq (.seq (.reg true [0, 1, 5, 28] [⟨some 17, .mv (.t 0), none, 0, []⟩,
    ⟨some 18, .nilck (.t 17), none, 1, []⟩,
    ⟨some 19, .fad 1 (.t 18), none, 2, []⟩,
    ⟨some 20, .load none (.t 19), none, 3, []⟩,
    ⟨some 21, .mv (.t 5), none, 4, []⟩,
    ⟨some 22, .bin .mul .num (.c (.int .i64 8)) (.t 21), none, 5, []⟩,
    ⟨some 23, .bin .add .num (.t 20) (.t 22), none, 6, []⟩,
    ⟨some 24, .mv (.t 0), none, 7, []⟩,
    ⟨some 25, .nilck (.t 24), none, 8, []⟩,
    ⟨some 26, .fad 2 (.t 25), none, 9, []⟩,
    ⟨some 27, .load none (.t 26), none, 10, []⟩,
    ⟨some 28, .bin .gtr .num (.t 23) (.t 27), none, 11, []⟩])
  (.cond (.t 28) (.seq (.reg false [4] [⟨some 4, .mv (.c (.int .i64 13)), none, 0, []⟩])
  (.ret))
  (.skip)))
  (.seq (.seq (.reg false [0, 1, 5, 29, 30] [⟨some 29, .mv (.t 5), none, 0, []⟩,
    ⟨some 30, .mv (.c (.int .i64 0)), none, 0, []⟩])
  (.block 2 (.loop [0, 1, 5, 29, 30] bits_Writer_Var_l0)))
  (.seq (.reg false [4] [⟨some 4, .mv (.c (.int .i64 0)), none, 0, []⟩])
  (.ret))))))⟩

/-- (*burin/bits.Writer).Align -/
def bits_Writer_Align : AFun := ⟨1, 12, true, [],
  .reg false [] [⟨some 2, .mv (.t 0), none, 0, []⟩,
    ⟨some 3, .mv (.t 0), none, 0, []⟩,
    ⟨some 4, .nilck (.t 3), none, 0, []⟩,
    ⟨some 5, .fad 1 (.t 4), none, 0, []⟩,
    ⟨some 6, .load none (.t 5), none, 0, []⟩,
    ⟨some 7, .bin .add .num (.t 6) (.c (.int .i64 7)), none, 0, []⟩,
    ⟨some 8, .bin .quo .num (.t 7) (.c (.int .i64 8)), none, 0, []⟩,
    ⟨some 9, .bin .mul .num (.t 8) (.c (.int .i64 8)), none, 0, []⟩,
    ⟨some 10, .nilck (.t 2), none, 0, []⟩,
    ⟨some 11, .fad 1 (.t 10), none, 0, []⟩,
    ⟨none, .store 1 (.t 11) (.t 9), none, 0, []⟩]⟩

/-- (*burin/bits.Writer).Len -/
def bits_Writer_Len : AFun := ⟨1, 7, true, [.t 2],
  .seq (.reg false [0] [⟨some 2, .mv (.c (.int .i64 0)), none, 0, []⟩])
  (.seq (.reg false [2] [⟨some 3, .mv (.t 0), none, 0, []⟩,
    ⟨some 4, .nilck (.t 3), none, 0, []⟩,
    ⟨some 5, .fad 1 (.t 4), none, 0, []⟩,
    ⟨some 6, .load none (.t 5), none, 0, []⟩,
    ⟨some 2, .mv (.t 6), none, 0, []⟩])
  (.ret))⟩

/-- (*burin/bits.Writer).Bytes -/
def bits_Writer_Bytes : AFun := ⟨1, 8, true, [.t 2],
  .seq (.reg false [0] [⟨some 2, .mv (.c (.sl none 0 0 0)), none, 0, []⟩])
  (.seq (.reg false [2] [⟨some 3, .mv (.t 0), none, 0, []⟩,
    ⟨some 4, .nilck (.t 3), none, 0, []⟩,
    ⟨some 5, .fad 0 (.t 4), none, 0, []⟩,
    ⟨some 6, .load none (.t 5), none, 0, []⟩,
    ⟨some 7, .append 1 1 (.c (.sl none 0 0 0)) (.t 6), none, 0, []⟩,
    ⟨some 2, .mv (.t 7), none, 0, []⟩])
  (.ret))⟩

/-- burin/bits.NewReader -/
def bits_NewReader : AFun := ⟨1, 7, true, [.t 2],
  .seq (.reg false [0] [⟨some 2, .mv (.c (.ptr none)), none, 0, []⟩])
  (.seq (.reg false [2] [⟨some 3, .mv (.t 0), none, 0, []⟩,
    ⟨some 4, .append 1 1 (.c (.sl none 0 0 0)) (.t 3), none, 0, []⟩,
    ⟨some 5, .build [.sl none 0 0 0, .int .i64 0] [(0, 1, (.t 4))], none, 0, []⟩,
    ⟨some 6, .box 2 (.t 5), none, 0, []⟩,
    ⟨some 2, .mv (.t 6), none, 0, []⟩])
  (.ret))⟩

/-- (*burin/bits.Reader).Left -/
def bits_Reader_Left : AFun := ⟨1, 14, true, [.t 2],
  .seq (.reg false [0] [⟨some 2, .mv (.c (.int .i64 0)), none, 0, []⟩])
  (.seq (.reg true [2] [⟨some 3, .mv (.t 0), none, 0, []⟩,
    ⟨some 4, .nilck (.t 3), none, 1, []⟩,
    ⟨some 5, .fad 0 (.t 4), none, 2, []⟩,
    ⟨some 6, .load none (.t 5), none, 3, []⟩,
    ⟨some 7, .len none (.t 6), none, 4, []⟩,
    ⟨some 8, .bin .mul .num (.c (.int .i64 8)) (.t 7), none, 5, []⟩,
    ⟨some 9, .mv (.t 0), none, 6, []⟩,
    ⟨some 10, .nilck (.t 9), none, 7, []⟩,
    ⟨some 11, .fad 1 (.t 10), none, 8, []⟩,
    ⟨some 12, .load none (.t 11), none, 9, []⟩,
    ⟨some 13, .bin .sub .num (.t 8) (.t 12), none, 10, []⟩,
    ⟨some 2, .mv (.t 13), none, 11, []⟩])
  (.ret))⟩

/-- (*burin/bits.Reader).Take -/
def bits_Reader_Take : AFun := ⟨2, 36, true, [.t 4, .t 5],
  .seq (.reg false [0, 1] [⟨some 4, .mv (.c (.int .u64 0)), none, 0, []⟩,
    ⟨some 5, .mv (.c (.int .i64 0)), none, 0, []⟩])
  (.seq (.seq (.reg false [0, 1, 11] [⟨some 6, .mv (.t 1), none, 0, []⟩,
    ⟨some 7, .bin .lss .num (.t 6) (.c (.int .i64 0)), none, 0, []⟩,
    ⟨some 8, .mv (.t 7), none, 0, []⟩,
    ⟨some 9, .mv (.t 1), some (8, false), 0, []⟩,
    ⟨some 10, .bin .gtr .num (.t 9) (.c (.int .i64 64)), some (8, false), 0, []⟩,
    ⟨some 11, .pick (.t 8) (.c (.bool true)) (.t 10), none, 0, []⟩])
  (.cond (.t 11) (.seq (.reg false [4, 5] [⟨some 4, .mv (.c (.int .u64 0)), none, 0, []⟩,
    ⟨some 5, .mv (.c (.int .i64 11)), none, 0, []⟩])
  (.ret))
  (.skip)))
  (.seq (.seq (.reg false [0, 1, 15] [⟨some 12, .mv (.t 1), none, 0, []⟩,
    ⟨some 13, .mv (.t 0), none, 0, []⟩,
    ⟨some 14, .call (.f 11) [(.t 13)], none, 0, []⟩,
    ⟨some 15, .bin .gtr .num (.t 12) (.t 14), none, 0, []⟩])
  (.cond (.t 15) (.seq (.reg false [4, 5] [⟨some 4, .mv (.c (.int .u64 0)), none, 0, []⟩,
    ⟨some 5, .mv (.c (.int .i64 14)), none, 0, []⟩])
  (.ret))
  (.skip)))
  (.seq (.reg false [0, 1] [⟨some 16, .mv (.t 0), none, 0, []⟩,
    ⟨some 17, .nilck (.t 16), none, 0, []⟩,
    ⟨some 18, .fad 1 (.t 17), none, 0, []⟩,
    ⟨some 19, .load none (.t 18), none, 0, []⟩,
    ⟨some 20, .mv (.t 1), none, 0, []⟩,
    ⟨some 21, .bin .add .num (.t 19) (.t 20), none, 0, []⟩,
    ⟨some 22, .nilck (.t 16), none, 0, []⟩,
    ⟨some 23, .fad 1 (.t 22), none, 0, []⟩,
    ⟨none, .store 1 (.t 23) (.t 21), none, 0, []⟩])
  (.seq (.reg true [4, 5] [⟨some 24, .mv (.t 0), none, 0, []⟩,
    ⟨some 25, .nilck (.t 24), none, 1, []⟩,
    ⟨some 26, .fad 0 (.t 25), none, 2, []⟩,
    ⟨some 27, .load none (.t 26), none, 3, []⟩,
    ⟨some 28, .mv (.t 0), none, 4, []⟩,
    ⟨some 29, .nilck (.t 28), none, 5, []⟩,
    ⟨some 30, .fad 1 (.t 29), none, 6, []⟩,
    ⟨some 31, .load none (.t 30), none, 7, []⟩,
    ⟨some 32, .mv (.t 1), none, 8, []⟩,
    ⟨some 33, .bin .sub .num (.t 31) (.t 32), none, 9, []⟩,
    ⟨some 34, .mv (.t 1), none, 10, []⟩,
    ⟨some 35, .call (.f 2) [(.t 27), (.t 33), (.t 34)], none, 11, []⟩,
    ⟨some 4, .mv (.t 35), none, 12, []⟩,
    ⟨some 5, .mv (.c (.int .i64 0)), none, 13, []⟩])
  (.ret)))))⟩

/-- (*burin/bits.Reader).group -/
def bits_Reader_group : AFun := ⟨1, 24, true, [.t 2, .t 3],
  .seq (.reg false [0] [⟨some 2, .mv (.c (.int .u8 0)), none, 0, []⟩,
    ⟨some 3, .mv (.c (.bool false)), none, 0, []⟩])
  (.seq (.seq (.reg false [0, 6] [⟨some 4, .mv (.t 0), none, 0, []⟩,
    ⟨some 5, .call (.f 11) [(.t 4)], none, 0, []⟩,
    ⟨some 6, .bin .lss .num (.t 5) (.c (.int .i64 8)), none, 0, []⟩])
  (.cond (.t 6) (.seq (.reg false [2, 3] [⟨some 2, .mv (.c (.int .u8 0)), none, 0, []⟩,
    ⟨some 3, .mv (.c (.bool false)), none, 0, []⟩])
  (.ret))
  (.skip)))
  (.seq (.reg false [0] [⟨some 7, .mv (.t 0), none, 0, []⟩,
    ⟨some 8, .nilck (.t 7), none, 0, []⟩,
    ⟨some 9, .fad 1 (.t 8), none, 0, []⟩,
    ⟨some 10, .load none (.t 9), none, 0, []⟩,
    ⟨some 11, .bin .add .num (.t 10) (.c (.int .i64 8)), none, 0, []⟩,
    ⟨some 12, .nilck (.t 7), none, 0, []⟩,
    ⟨some 13, .fad 1 (.t 12), none, 0, []⟩,
    ⟨none, .store 1 (.t 13) (.t 11), none, 0, []⟩])
  (.seq (.reg true [2, 3] [⟨some 14, .mv (.t 0), none, 0, []⟩,
    ⟨some 15, .nilck (.t 14), none, 1, []⟩,
    ⟨some 16, .fad 0 (.t 15), none, 2, []⟩,
    ⟨some 17, .load none (.t 16), none, 3, []⟩,
    ⟨some 18, .mv (.t 0), none, 4, []⟩,
    ⟨some 19, .nilck (.t 18), none, 5, []⟩,
    ⟨some 20, .fad 1 (.t 19), none, 6, []⟩,
    ⟨some 21, .load none (.t 20), none, 7, []⟩,
    ⟨some 22, .bin .sub .num (.t 21) (.c (.int .i64 8)), none, 8, []⟩,
    ⟨some 23, .call (.f 3) [(.t 17), (.t 22), (.c (.int .i64 8))], none, 9, []⟩,
    ⟨some 2, .mv (.t 23), none, 10, []⟩,
    ⟨some 3, .mv (.c (.bool true)), none, 11, []⟩])
  (.ret))))⟩

/-- (*burin/bits.Reader).Var$1 -/
def bits_Reader_Var_1 : AFun := ⟨4, 10, true, [],
  .seq (.reg false [1, 2, 3, 5] [⟨some 4, .load none (.t 0), none, 0, []⟩,
    ⟨some 5, .bin .neq .num (.t 4) (.c (.int .i64 0)), none, 0, []⟩])
  (.cond (.t 5) (.reg false [] [⟨some 6, .load none (.t 3), none, 0, []⟩,
    ⟨some 7, .load none (.t 1), none, 0, []⟩,
    ⟨none, .store 1 (.t 2) (.c (.int .u64 0)), none, 0, []⟩,
    ⟨some 8, .nilck (.t 6), none, 0, []⟩,
    ⟨some 9, .fad 1 (.t 8), none, 0, []⟩,
    ⟨none, .store 1 (.t 9) (.t 7), none, 0, []⟩])
  (.skip))⟩

def bits_Reader_Var_l0 : Cd := .seq (.block 1 (.seq (.reg false [1, 2, 3, 5, 6, 7] [⟨some 16, .load none (.t 1), none, 0, []⟩,
    ⟨some 17, .call (.f 13) [(.t 16)], none, 0, []⟩,
    ⟨some 15, .mv (.t 17), none, 0, []⟩,
    ⟨some 18, .ext 0 (.t 15), none, 0, []⟩,
    ⟨some 19, .ext 1 (.t 15), none, 0, []⟩,
    ⟨some 6, .mv (.t 18), none, 0, []⟩,
    ⟨some 7, .mv (.t 19), none, 0, []⟩])
  (.seq (.block 2 (.seq (.reg false [1, 2, 3, 5, 6, 20] [⟨some 21, .mv (.t 7), none, 0, []⟩,
    ⟨some 22, .un .not (.t 21), none, 0, []⟩,
    ⟨some 20, .mv (.t 22), none, 0, []⟩])
  (.cond (.t 20) (.seq (.reg false [2, 3] [⟨none, .store 1 (.t 2) (.c (.int .u64 0)), none, 0, []⟩,
    ⟨none, .store 1 (.t 3) (.c (.int .i64 14)), none, 0, []⟩])
  (.ret))
  (.seq (.seq (.reg false [1, 2, 3, 5, 6, 23] [⟨some 24, .mv (.t 5), none, 0, []⟩,
    ⟨some 25, .bin .eql .num (.t 24) (.c (.int .i64 63)), none, 0, []⟩,
    ⟨some 26, .mv (.t 25), none, 0, []⟩,
    ⟨some 27, .mv (.t 6), some (26, true), 0, []⟩,
    ⟨some 28, .bin .gtr .num (.t 27) (.c (.int .u8 1)), some (26, true), 0, []⟩,
    ⟨some 29, .pick (.t 26) (.t 28) (.c (.bool false)), none, 0, []⟩,
    ⟨some 23, .mv (.t 29), none, 0, []⟩])
  (.cond (.t 23) (.skip)
  (.reg false [1, 2, 3, 5, 6, 23] [⟨some 30, .mv (.t 5), none, 0, []⟩,
    ⟨some 31, .bin .gtr .num (.t 30) (.c (.int .i64 0)), none, 0, []⟩,
    ⟨some 32, .mv (.t 31), none, 0, []⟩,
    ⟨some 33, .mv (.t 6), some (32, true), 0, []⟩,
    ⟨some 34, .bin .eql .num (.t 33) (.c (.int .u8 0)), some (32, true), 0, []⟩,
    ⟨some 35, .pick (.t 32) (.t 34) (.c (.bool false)), none, 0, []⟩,
    ⟨some 23, .mv (.t 35), none, 0, []⟩])))
  (.cond (.t 23) (.seq (.reg false [2, 3] [⟨none, .store 1 (.t 2) (.c (.int .u64 0)), none, 0, []⟩,
    ⟨none, .store 1 (.t 3) (.c (.int .i64 16)), none, 0, []⟩])
  (.ret))
  (.skip))))))
  (.seq (.reg true [1, 2, 3, 5, 6] [⟨some 36, .load none (.t 2), none, 0, []⟩,
    ⟨some 37, .mv (.t 6), none, 1, []⟩,
    ⟨some 38, .bin .and .num (.t 37) (.c (.int .u8 127)), none, 2, []⟩,
    ⟨some 39, .conv .u64 (.t 38), none, 3, []⟩,
    ⟨some 40, .mv (.t 5), none, 4, []⟩,
    ⟨some 41, .bin .shl .num (.t 39) (.t 40), none, 5, []⟩,
    ⟨some 42, .bin .or .num (.t 36) (.t 41), none, 6, []⟩,
    ⟨none, .store 1 (.t 2) (.t 42), none, 7, []⟩])
  (.seq (.reg false [1, 2, 3, 5, 44] [⟨some 43, .mv (.t 6), none, 0, []⟩,
    ⟨some 44, .bin .lss .num (.t 43) (.c (.int .u8 128)), none, 0, []⟩])
  (.cond (.t 44) (.seq (.reg false [2, 3] [⟨some 45, .load none (.t 2), none, 0, []⟩,
    ⟨none, .store 1 (.t 2) (.t 45), none, 0, []⟩,
    ⟨none, .store 1 (.t 3) (.c (.int .i64 0)), none, 0, []⟩])
  (.ret))
  (.skip)))))))
  (.reg false [1, 2, 3, 5] [⟨some 13, .mv (.t 5), none, 0, []⟩,
    ⟨some 14, .bin .add .num (.t 13) (.c (.int .i64 7)), none, 0, []⟩,
    ⟨some 5, .mv (.t 14), none, 0, []⟩])
/-- (*burin/bits.Reader).Var -/
def bits_Reader_Var : AFun := ⟨1, 46, false, [.cell 2 none, .cell 3 none],
  .seq (.reg false [1, 2, 3] [⟨some 1, .box 1 (.t 0), none, 0, []⟩,
    ⟨some 2, .alloc [.int .u64 0], none, 0, []⟩,
    ⟨some 3, .alloc [.int .i64 0], none, 0, []⟩])
  (.seq (.reg false [1, 2, 3, 4] [⟨some 8, .load none (.t 1), none, 0, []⟩,
    ⟨some 9, .nilck (.t 8), none, 0, []⟩,
    ⟨some 10, .fad 1 (.t 9), none, 0, []⟩,
    ⟨some 11, .load none (.t 10), none, 0, []⟩,
    ⟨some 4, .alloc [.int .i64 0], none, 0, []⟩,
    ⟨none, .store 1 (.t 4) (.t 11), none, 0, []⟩])
  (.seq (.reg false [1, 2, 3] [⟨some 12, .mkfn 14 [] [(.t 3), (.t 4), (.t 2), (.t 1)], none, 0, []⟩,
    ⟨none, .dfr (.t 12) [], none, 0, []⟩])
  (.seq (.reg false [1, 2, 3, 5] [⟨some 5, .mv (.c (.int .i64 0)), none, 0, []⟩])
  (.block 0 (.loop [1, 2, 3, 5] bits_Reader_Var_l0)))))⟩

/-- (*burin/bits.Reader).Align -/
def bits_Reader_Align : AFun := ⟨1, 30, true, [.t 2],
  .seq (.reg false [0] [⟨some 2, .mv (.c (.int .i64 0)), none, 0, []⟩])
  (.seq (.reg false [0, 3] [⟨some 4, .mv (.t 0), none, 0, []⟩,
    ⟨some 5, .nilck (.t 4), none, 0, []⟩,
    ⟨some 6, .fad 1 (.t 5), none, 0, []⟩,
    ⟨some 7, .load none (.t 6), none, 0, []⟩,
    ⟨some 8, .bin .rem .num (.t 7) (.c (.int .i64 8)), none, 0, []⟩,
    ⟨some 9, .bin .sub .num (.c (.int .i64 8)) (.t 8), none, 0, []⟩,
    ⟨some 10, .bin .rem .num (.t 9) (.c (.int .i64 8)), none, 0, []⟩,
    ⟨some 3, .mv (.t 10), none, 0, []⟩])
  (.seq (.seq (.reg true [0, 3, 21] [⟨some 11, .mv (.t 0), none, 0, []⟩,
    ⟨some 12, .nilck (.t 11), none, 1, []⟩,
    ⟨some 13, .fad 0 (.t 12), none, 2, []⟩,
    ⟨some 14, .load none (.t 13), none, 3, []⟩,
    ⟨some 15, .mv (.t 0), none, 4, []⟩,
    ⟨some 16, .nilck (.t 15), none, 5, []⟩,
    ⟨some 17, .fad 1 (.t 16), none, 6, []⟩,
    ⟨some 18, .load none (.t 17), none, 7, []⟩,
    ⟨some 19, .mv (.t 3), none, 8, []⟩,
    ⟨some 20, .call (.f 3) [(.t 14), (.t 18), (.t 19)], none, 9, []⟩,
    ⟨some 21, .bin .neq .num (.t 20) (.c (.int .u8 0)), none, 10, []⟩])
  (.cond (.t 21) (.seq (.reg false [2] [⟨some 2, .mv (.c (.int .i64 15)), none, 0, []⟩])
  (.ret))
  (.skip)))
  (.seq (.reg false [] [⟨some 22, .mv (.t 0), none, 0, []⟩,
    ⟨some 23, .nilck (.t 22), none, 0, []⟩,
    ⟨some 24, .fad 1 (.t 23), none, 0, []⟩,
    ⟨some 25, .load none (.t 24), none, 0, []⟩,
    ⟨some 26, .mv (.t 3), none, 0, []⟩,
    ⟨some 27, .bin .add .num (.t 25) (.t 26), none, 0, []⟩,
    ⟨some 28, .nilck (.t 22), none, 0, []⟩,
    ⟨some 29, .fad 1 (.t 28), none, 0, []⟩,
    ⟨none, .store 1 (.t 29) (.t 27), none, 0, []⟩])
  (.seq (.reg false [2] [⟨some 2, .mv (.c (.int .i64 0)), none, 0, []⟩])
  (.ret)))))⟩

/-- A program that has them. -/
structure HasBits (P : Prog) : Prop where
  h_bits_lay_uint8 : P 0 = some bits_lay_uint8
  h_bits_lay_uint64 : P 1 = some bits_lay_uint64
  h_bits_told_uint64 : P 2 = some bits_told_uint64
  h_bits_told_uint8 : P 3 = some bits_told_uint8
  h_bits_NewWriter : P 4 = some bits_NewWriter
  h_bits_Writer_Put : P 5 = some bits_Writer_Put
  h_bits_Writer_Var : P 6 = some bits_Writer_Var
  h_bits_Writer_Align : P 7 = some bits_Writer_Align
  h_bits_Writer_Len : P 8 = some bits_Writer_Len
  h_bits_Writer_Bytes : P 9 = some bits_Writer_Bytes
  h_bits_NewReader : P 10 = some bits_NewReader
  h_bits_Reader_Left : P 11 = some bits_Reader_Left
  h_bits_Reader_Take : P 12 = some bits_Reader_Take
  h_bits_Reader_group : P 13 = some bits_Reader_group
  h_bits_Reader_Var_1 : P 14 = some bits_Reader_Var_1
  h_bits_Reader_Var : P 15 = some bits_Reader_Var
  h_bits_Reader_Align : P 16 = some bits_Reader_Align

end Go.Ab
