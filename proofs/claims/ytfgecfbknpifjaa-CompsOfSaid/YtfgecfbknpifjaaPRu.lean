/- The texts of functions of the given program, for the abstract machine: written by wip/tools/gen.py out of Lean's print of the translation. Conditions: none; definitions alone. -/
import Derived.Test.YtfgecfbknpifjaaK1
set_option linter.all false
namespace Go.Ab
-- math_bits_LeadingZeros64: 113, parameters x; loops 
-- math_bits_Len64: 112, parameters x; loops 
-- runs_ends: 114, parameters row w x black; loops runs_ends_l0 [0 row, 1 w, 2 x, 3 black]
-- runs_Of: 115, parameters b; loops runs_Of_l0 [1 b, 4 words, 5 out, 19 , 20 ]; runs_Of_l1 [1 b, 4 words, 5 out, 7 row, 8 l, 9 x, 19 , 20 ]
-- runs_Back: 116, parameters ? ?; loops runs_Back_l0 [1 ?, 4 ?, 6 ?, 23 ?, 24 ?, 25 ?]; runs_Back_l1 [1 ?, 4 ?, 6 ?, 8 ?, 10 ?, 23 ?, 24 ?, 25 ?, 30 ?, 31 ?, 32 ?]
-- runs_Touch: 117, parameters a b; loops 

/-- math/bits.LeadingZeros64 -/
def math_bits_LeadingZeros64 : AFun := ⟨1, 6, true, [.t 2],
  .seq (.reg false [0] [⟨some 2, .mv (.c (.int .i64 0)), none, 0, []⟩])
  (.seq (.reg false [2] [⟨some 3, .mv (.t 0), none, 0, []⟩,
    ⟨some 4, .call (.f 112) [(.t 3)], none, 0, []⟩,
    ⟨some 5, .bin .sub .num (.c (.int .i64 64)) (.t 4), none, 0, []⟩,
    ⟨some 2, .mv (.t 5), none, 0, []⟩])
  (.ret))⟩

def math_bits_Len64_s0 : ByteArray := ⟨#[0, 1, 2, 2, 3, 3, 3, 3, 4, 4, 4, 4, 4, 4, 4, 4, 5, 5, 5, 5, 5, 5, 5, 5, 5, 5, 5, 5, 5, 5, 5, 5, 6, 6, 6, 6, 6, 6, 6, 6, 6, 6, 6, 6, 6, 6, 6, 6, 6, 6, 6, 6, 6, 6, 6, 6, 6, 6, 6, 6, 6, 6, 6, 6, 7, 7, 7, 7, 7, 7, 7, 7, 7, 7, 7, 7, 7, 7, 7, 7, 7, 7, 7, 7, 7, 7, 7, 7, 7, 7, 7, 7, 7, 7, 7, 7, 7, 7, 7, 7, 7, 7, 7, 7, 7, 7, 7, 7, 7, 7, 7, 7, 7, 7, 7, 7, 7, 7, 7, 7, 7, 7, 7, 7, 7, 7, 7, 7, 8, 8, 8, 8, 8, 8, 8, 8, 8, 8, 8, 8, 8, 8, 8, 8, 8, 8, 8, 8, 8, 8, 8, 8, 8, 8, 8, 8, 8, 8, 8, 8, 8, 8, 8, 8, 8, 8, 8, 8, 8, 8, 8, 8, 8, 8, 8, 8, 8, 8, 8, 8, 8, 8, 8, 8, 8, 8, 8, 8, 8, 8, 8, 8, 8, 8, 8, 8, 8, 8, 8, 8, 8, 8, 8, 8, 8, 8, 8, 8, 8, 8, 8, 8, 8, 8, 8, 8, 8, 8, 8, 8, 8, 8, 8, 8, 8, 8, 8, 8, 8, 8, 8, 8, 8, 8, 8, 8, 8, 8, 8, 8, 8, 8, 8, 8, 8, 8, 8, 8, 8, 8, 8, 8, 8, 8, 8, 8]⟩
/-- math/bits.Len64 -/
def math_bits_Len64 : AFun := ⟨1, 25, true, [.t 2],
  .seq (.reg false [0, 2] [⟨some 2, .mv (.c (.int .i64 0)), none, 0, []⟩])
  (.seq (.seq (.reg false [0, 2, 4] [⟨some 3, .mv (.t 0), none, 0, []⟩,
    ⟨some 4, .bin .geq .num (.t 3) (.c (.int .u64 4294967296)), none, 0, []⟩])
  (.cond (.t 4) (.seq (.reg false [0] [⟨some 5, .mv (.t 0), none, 0, []⟩,
    ⟨some 6, .bin .shr .num (.t 5) (.c (.int .u64 32)), none, 0, []⟩,
    ⟨some 0, .mv (.t 6), none, 0, []⟩])
  (.reg false [0, 2] [⟨some 2, .mv (.c (.int .i64 32)), none, 0, []⟩]))
  (.skip)))
  (.seq (.seq (.reg false [0, 2, 8] [⟨some 7, .mv (.t 0), none, 0, []⟩,
    ⟨some 8, .bin .geq .num (.t 7) (.c (.int .u64 65536)), none, 0, []⟩])
  (.cond (.t 8) (.seq (.reg false [0, 2] [⟨some 9, .mv (.t 0), none, 0, []⟩,
    ⟨some 10, .bin .shr .num (.t 9) (.c (.int .u64 16)), none, 0, []⟩,
    ⟨some 0, .mv (.t 10), none, 0, []⟩])
  (.reg false [0, 2] [⟨some 11, .mv (.t 2), none, 0, []⟩,
    ⟨some 12, .bin .add .num (.t 11) (.c (.int .i64 16)), none, 0, []⟩,
    ⟨some 2, .mv (.t 12), none, 0, []⟩]))
  (.skip)))
  (.seq (.seq (.reg false [0, 2, 14] [⟨some 13, .mv (.t 0), none, 0, []⟩,
    ⟨some 14, .bin .geq .num (.t 13) (.c (.int .u64 256)), none, 0, []⟩])
  (.cond (.t 14) (.seq (.reg false [0, 2] [⟨some 15, .mv (.t 0), none, 0, []⟩,
    ⟨some 16, .bin .shr .num (.t 15) (.c (.int .u64 8)), none, 0, []⟩,
    ⟨some 0, .mv (.t 16), none, 0, []⟩])
  (.reg false [0, 2] [⟨some 17, .mv (.t 2), none, 0, []⟩,
    ⟨some 18, .bin .add .num (.t 17) (.c (.int .i64 8)), none, 0, []⟩,
    ⟨some 2, .mv (.t 18), none, 0, []⟩]))
  (.skip)))
  (.seq (.reg false [2] [⟨some 19, .mv (.t 2), none, 0, []⟩,
    ⟨some 20, .mv (.t 0), none, 0, []⟩,
    ⟨some 21, .conv .u8 (.t 20), none, 0, []⟩,
    ⟨some 22, .idx none 0 none (.c (.str math_bits_Len64_s0)) (.t 21), none, 0, []⟩,
    ⟨some 23, .conv .i64 (.t 22), none, 0, []⟩,
    ⟨some 24, .bin .add .num (.t 19) (.t 23), none, 0, []⟩,
    ⟨some 2, .mv (.t 24), none, 0, []⟩])
  (.ret)))))⟩

def runs_ends_l0 : Cd := .seq (.seq (.reg false [0, 1, 2, 3, 13] [⟨some 11, .mv (.t 2), none, 0, []⟩,
    ⟨some 12, .mv (.t 1), none, 0, []⟩,
    ⟨some 13, .bin .lss .num (.t 11) (.t 12), none, 0, []⟩])
  (.cond (.t 13) (.skip)
  (.exit 0)))
  (.block 1 (.seq (.reg false [0, 1, 2, 3, 9] [⟨some 14, .mv (.t 0), none, 0, []⟩,
    ⟨some 15, .mv (.t 2), none, 0, []⟩,
    ⟨some 16, .bin .quo .num (.t 15) (.c (.int .i64 64)), none, 0, []⟩,
    ⟨some 17, .iad none 1 (.t 14) (.t 16), none, 0, []⟩,
    ⟨some 18, .load none (.t 17), none, 0, []⟩,
    ⟨some 9, .mv (.t 18), none, 0, []⟩])
  (.seq (.seq (.reg false [0, 1, 2, 3, 9, 19] [⟨some 19, .mv (.t 3), none, 0, []⟩])
  (.cond (.t 19) (.reg false [0, 1, 2, 3, 9] [⟨some 20, .mv (.t 9), none, 0, []⟩,
    ⟨some 21, .un .xor (.t 20), none, 0, []⟩,
    ⟨some 9, .mv (.t 21), none, 0, []⟩])
  (.skip)))
  (.seq (.reg false [0, 1, 2, 3, 10] [⟨some 22, .mv (.t 9), none, 0, []⟩,
    ⟨some 23, .mv (.t 2), none, 0, []⟩,
    ⟨some 24, .bin .rem .num (.t 23) (.c (.int .i64 64)), none, 0, []⟩,
    ⟨some 25, .bin .shl .num (.t 22) (.t 24), none, 0, []⟩,
    ⟨some 26, .call (.f 113) [(.t 25)], none, 0, []⟩,
    ⟨some 10, .mv (.t 26), none, 0, []⟩])
  (.seq (.seq (.reg false [0, 1, 2, 3, 10, 31] [⟨some 27, .mv (.t 10), none, 0, []⟩,
    ⟨some 28, .mv (.t 2), none, 0, []⟩,
    ⟨some 29, .bin .rem .num (.t 28) (.c (.int .i64 64)), none, 0, []⟩,
    ⟨some 30, .bin .sub .num (.c (.int .i64 64)) (.t 29), none, 0, []⟩,
    ⟨some 31, .bin .geq .num (.t 27) (.t 30), none, 0, []⟩])
  (.cond (.t 31) (.seq (.reg false [0, 1, 2, 3] [⟨some 32, .mv (.t 2), none, 0, []⟩,
    ⟨some 33, .bin .quo .num (.t 32) (.c (.int .i64 64)), none, 0, []⟩,
    ⟨some 34, .bin .add .num (.t 33) (.c (.int .i64 1)), none, 0, []⟩,
    ⟨some 35, .bin .mul .num (.t 34) (.c (.int .i64 64)), none, 0, []⟩,
    ⟨some 2, .mv (.t 35), none, 0, []⟩])
  (.exit 1))
  (.skip)))
  (.seq (.reg false [1, 2] [⟨some 36, .mv (.t 2), none, 0, []⟩,
    ⟨some 37, .mv (.t 10), none, 0, []⟩,
    ⟨some 38, .bin .add .num (.t 36) (.t 37), none, 0, []⟩,
    ⟨some 2, .mv (.t 38), none, 0, []⟩])
  (.exit 0)))))))
/-- burin/runs.ends -/
def runs_ends : AFun := ⟨4, 42, true, [.t 8],
  .seq (.reg false [0, 1, 2, 3] [⟨some 8, .mv (.c (.int .i64 0)), none, 0, []⟩])
  (.scope (.seq (.skip)
  (.seq (.block 0 (.loop [0, 1, 2, 3] runs_ends_l0))
  (.seq (.reg false [8] [⟨some 39, .mv (.t 2), none, 0, []⟩,
    ⟨some 40, .mv (.t 1), none, 0, []⟩,
    ⟨some 41, .mm false [(.t 39), (.t 40)], none, 0, []⟩,
    ⟨some 8, .mv (.t 41), none, 0, []⟩])
  (.ret)))))⟩

def runs_Of_l1 : Cd := .seq (.seq (.reg false [1, 4, 5, 7, 8, 9, 19, 20, 40] [⟨some 37, .mv (.t 9), none, 0, []⟩,
    ⟨some 38, .fad 0 (.t 1), none, 0, []⟩,
    ⟨some 39, .load none (.t 38), none, 0, []⟩,
    ⟨some 40, .bin .lss .num (.t 37) (.t 39), none, 0, []⟩])
  (.cond (.t 40) (.skip)
  (.exit 2)))
  (.block 3 (.seq (.reg false [1, 4, 5, 7, 8, 9, 10, 19, 20] [⟨some 41, .mv (.t 7), none, 0, []⟩,
    ⟨some 42, .fad 0 (.t 1), none, 0, []⟩,
    ⟨some 43, .load none (.t 42), none, 0, []⟩,
    ⟨some 44, .mv (.t 9), none, 0, []⟩,
    ⟨some 45, .call (.f 114) [(.t 41), (.t 43), (.t 44), (.c (.bool true))], none, 0, []⟩,
    ⟨some 10, .mv (.t 45), none, 0, []⟩])
  (.seq (.reg false [1, 4, 5, 7, 8, 10, 19, 20] [⟨some 46, .mv (.t 8), none, 0, []⟩,
    ⟨some 47, .mv (.t 9), none, 0, []⟩,
    ⟨some 48, .mv (.t 10), none, 0, []⟩,
    ⟨some 49, .build [.int .i64 0, .int .i64 0] [(0, 1, (.t 47)), (1, 1, (.t 48))], none, 0, []⟩,
    ⟨some 50, .bslice 2 [.int .i64 0, .int .i64 0] 1 [(0, (.t 49))], none, 0, []⟩,
    ⟨some 51, .append 2 16 (.t 46) (.t 50), none, 0, []⟩,
    ⟨some 8, .mv (.t 51), none, 0, []⟩])
  (.reg false [1, 4, 5, 7, 8, 9, 19, 20] [⟨some 52, .mv (.t 7), none, 0, []⟩,
    ⟨some 53, .fad 0 (.t 1), none, 0, []⟩,
    ⟨some 54, .load none (.t 53), none, 0, []⟩,
    ⟨some 55, .mv (.t 10), none, 0, []⟩,
    ⟨some 56, .call (.f 114) [(.t 52), (.t 54), (.t 55), (.c (.bool false))], none, 0, []⟩,
    ⟨some 9, .mv (.t 56), none, 0, []⟩]))))
def runs_Of_l0 : Cd := .seq (.reg false [1, 4, 5, 19, 20, 21] [⟨some 21, .bin .lss .num (.t 20) (.t 19), none, 0, []⟩])
  (.seq (.cond (.t 21) (.skip)
  (.exit 0))
  (.seq (.block 1 (.seq (.reg false [1, 4, 5, 6, 19, 20] [⟨some 22, .mv (.t 20), none, 0, []⟩,
    ⟨some 6, .mv (.t 22), none, 0, []⟩])
  (.seq (.reg false [1, 4, 5, 7, 19, 20] [⟨some 23, .fad 2 (.t 1), none, 0, []⟩,
    ⟨some 24, .load none (.t 23), none, 0, []⟩,
    ⟨some 25, .mv (.t 6), none, 0, []⟩,
    ⟨some 26, .mv (.t 4), none, 0, []⟩,
    ⟨some 27, .bin .mul .num (.t 25) (.t 26), none, 0, []⟩,
    ⟨some 28, .mv (.t 6), none, 0, []⟩,
    ⟨some 29, .bin .add .num (.t 28) (.c (.int .i64 1)), none, 0, []⟩,
    ⟨some 30, .mv (.t 4), none, 0, []⟩,
    ⟨some 31, .bin .mul .num (.t 29) (.t 30), none, 0, []⟩,
    ⟨some 32, .slice 1 (.t 24) (some (.t 27)) (some (.t 31)) none, none, 0, []⟩,
    ⟨some 7, .mv (.t 32), none, 0, []⟩])
  (.seq (.reg false [1, 4, 5, 7, 8, 19, 20] [⟨some 8, .mv (.c (.sl none 0 0 0)), none, 0, []⟩])
  (.seq (.seq (.reg false [1, 4, 5, 7, 8, 9, 19, 20] [⟨some 33, .mv (.t 7), none, 0, []⟩,
    ⟨some 34, .fad 0 (.t 1), none, 0, []⟩,
    ⟨some 35, .load none (.t 34), none, 0, []⟩,
    ⟨some 36, .call (.f 114) [(.t 33), (.t 35), (.c (.int .i64 0)), (.c (.bool false))], none, 0, []⟩,
    ⟨some 9, .mv (.t 36), none, 0, []⟩])
  (.block 2 (.loop [1, 4, 5, 7, 8, 9, 19, 20] runs_Of_l1)))
  (.reg false [1, 4, 5, 19, 20] [⟨some 57, .mv (.t 5), none, 0, []⟩,
    ⟨some 58, .mv (.t 8), none, 0, []⟩,
    ⟨some 59, .bslice 1 [.sl none 0 0 0] 1 [(0, (.t 58))], none, 0, []⟩,
    ⟨some 60, .append 1 24 (.t 57) (.t 59), none, 0, []⟩,
    ⟨some 5, .mv (.t 60), none, 0, []⟩]))))))
  (.reg false [1, 4, 5, 19, 20] [⟨some 61, .bin .add .num (.t 20) (.c (.int .i64 1)), none, 0, []⟩,
    ⟨some 20, .mv (.t 61), none, 0, []⟩])))
/-- burin/runs.Of -/
def runs_Of : AFun := ⟨1, 63, true, [.t 2, .t 3],
  .seq (.reg false [1] [⟨some 1, .box 3 (.t 0), none, 0, []⟩,
    ⟨some 2, .mv (.c (.sl none 0 0 0)), none, 0, []⟩,
    ⟨some 3, .mv (.c (.int .i64 0)), none, 0, []⟩])
  (.seq (.seq (.reg false [1, 13] [⟨some 11, .load (some 3) (.t 1), none, 0, []⟩,
    ⟨some 12, .call (.f 41) [(.t 11)], none, 0, []⟩,
    ⟨some 13, .un .not (.t 12), none, 0, []⟩])
  (.cond (.t 13) (.seq (.reg false [2, 3] [⟨some 2, .mv (.c (.sl none 0 0 0)), none, 0, []⟩,
    ⟨some 3, .mv (.c (.int .i64 80)), none, 0, []⟩])
  (.ret))
  (.skip)))
  (.seq (.reg false [1, 4] [⟨some 14, .fad 0 (.t 1), none, 0, []⟩,
    ⟨some 15, .load none (.t 14), none, 0, []⟩,
    ⟨some 16, .bin .add .num (.t 15) (.c (.int .i64 63)), none, 0, []⟩,
    ⟨some 17, .bin .quo .num (.t 16) (.c (.int .i64 64)), none, 0, []⟩,
    ⟨some 4, .mv (.t 17), none, 0, []⟩])
  (.seq (.reg false [1, 4, 5] [⟨some 5, .mv (.c (.sl none 0 0 0)), none, 0, []⟩])
  (.seq (.seq (.reg false [1, 4, 5, 19, 20] [⟨some 18, .fad 1 (.t 1), none, 0, []⟩,
    ⟨some 19, .load none (.t 18), none, 0, []⟩,
    ⟨some 20, .mv (.c (.int .i64 0)), none, 0, []⟩])
  (.block 0 (.loop [1, 4, 5, 19, 20] runs_Of_l0)))
  (.seq (.reg false [2, 3] [⟨some 62, .mv (.t 5), none, 0, []⟩,
    ⟨some 2, .mv (.t 62), none, 0, []⟩,
    ⟨some 3, .mv (.c (.int .i64 0)), none, 0, []⟩])
  (.ret))))))⟩

def runs_Back_l1 : Cd := .seq (.reg false [1, 4, 6, 8, 10, 23, 24, 25, 30, 31, 32, 33] [⟨some 33, .bin .lss .num (.t 32) (.t 31), none, 0, []⟩])
  (.seq (.cond (.t 33) (.skip)
  (.exit 2))
  (.seq (.block 3 (.seq (.reg false [1, 4, 6, 8, 10, 12, 23, 24, 25, 30, 31, 32] [⟨some 34, .iad none 2 (.t 30) (.t 32), none, 0, []⟩,
    ⟨some 35, .load (some 2) (.t 34), none, 0, []⟩,
    ⟨some 12, .alloc [.int .i64 0, .int .i64 0], none, 0, []⟩,
    ⟨none, .store 2 (.t 12) (.t 35), none, 0, []⟩])
  (.seq (.seq (.reg false [1, 4, 6, 8, 12, 23, 24, 25, 30, 31, 32, 52] [⟨some 36, .fad 0 (.t 12), none, 0, []⟩,
    ⟨some 37, .load none (.t 36), none, 0, []⟩,
    ⟨some 38, .mv (.t 10), none, 0, []⟩,
    ⟨some 39, .bin .leq .num (.t 37) (.t 38), none, 0, []⟩,
    ⟨some 40, .mv (.t 39), none, 0, []⟩,
    ⟨some 41, .fad 0 (.t 12), some (40, false), 0, []⟩,
    ⟨some 42, .load none (.t 41), some (40, false), 0, []⟩,
    ⟨some 43, .fad 1 (.t 12), some (40, false), 0, []⟩,
    ⟨some 44, .load none (.t 43), some (40, false), 0, []⟩,
    ⟨some 45, .bin .geq .num (.t 42) (.t 44), some (40, false), 0, []⟩,
    ⟨some 46, .pick (.t 40) (.c (.bool true)) (.t 45), none, 0, []⟩,
    ⟨some 47, .mv (.t 46), none, 0, []⟩,
    ⟨some 48, .fad 1 (.t 12), some (47, false), 0, []⟩,
    ⟨some 49, .load none (.t 48), some (47, false), 0, []⟩,
    ⟨some 50, .mv (.t 1), some (47, false), 0, []⟩,
    ⟨some 51, .bin .gtr .num (.t 49) (.t 50), some (47, false), 0, []⟩,
    ⟨some 52, .pick (.t 47) (.c (.bool true)) (.t 51), none, 0, []⟩])
  (.cond (.t 52) (.seq (.reg false [4, 5] [⟨some 53, .build [.int .i64 0, .int .i64 0, .sl none 0 0 0] [], none, 0, []⟩,
    ⟨none, .store 3 (.t 4) (.t 53), none, 0, []⟩,
    ⟨some 5, .mv (.c (.int .i64 80)), none, 0, []⟩])
  (.ret))
  (.skip)))
  (.seq (.reg false [1, 4, 6, 8, 10, 12, 23, 24, 25, 30, 31, 32] [⟨some 54, .fad 1 (.t 12), none, 0, []⟩,
    ⟨some 55, .load none (.t 54), none, 0, []⟩,
    ⟨some 10, .mv (.t 55), none, 0, []⟩])
  (.reg false [1, 4, 6, 8, 10, 23, 24, 25, 30, 31, 32] [⟨some 56, .mv (.t 6), none, 0, []⟩,
    ⟨some 57, .fad 0 (.t 12), none, 0, []⟩,
    ⟨some 58, .load none (.t 57), none, 0, []⟩,
    ⟨some 59, .mv (.t 8), none, 0, []⟩,
    ⟨some 60, .fad 1 (.t 12), none, 0, []⟩,
    ⟨some 61, .load none (.t 60), none, 0, []⟩,
    ⟨some 62, .fad 0 (.t 12), none, 0, []⟩,
    ⟨some 63, .load none (.t 62), none, 0, []⟩,
    ⟨some 64, .bin .sub .num (.t 61) (.t 63), none, 0, []⟩,
    ⟨some 65, .call (.f 56) [(.t 56), (.t 58), (.t 59), (.t 64), (.c (.int .i64 1)), (.c (.int .i64 1))], none, 0, []⟩])))))
  (.reg false [1, 4, 6, 8, 10, 23, 24, 25, 30, 31, 32] [⟨some 66, .bin .add .num (.t 32) (.c (.int .i64 1)), none, 0, []⟩,
    ⟨some 32, .mv (.t 66), none, 0, []⟩])))
def runs_Back_l0 : Cd := .seq (.reg false [1, 4, 6, 23, 24, 25, 26] [⟨some 26, .bin .lss .num (.t 25) (.t 24), none, 0, []⟩])
  (.seq (.cond (.t 26) (.skip)
  (.exit 0))
  (.seq (.block 1 (.seq (.reg false [1, 4, 6, 8, 9, 23, 24, 25] [⟨some 27, .mv (.t 25), none, 0, []⟩,
    ⟨some 28, .iad none 1 (.t 23) (.t 25), none, 0, []⟩,
    ⟨some 29, .load none (.t 28), none, 0, []⟩,
    ⟨some 8, .mv (.t 27), none, 0, []⟩,
    ⟨some 9, .mv (.t 29), none, 0, []⟩])
  (.seq (.reg false [1, 4, 6, 8, 9, 10, 23, 24, 25] [⟨some 10, .mv (.c (.int .i64 (-1))), none, 0, []⟩])
  (.seq (.reg false [1, 4, 6, 8, 10, 23, 24, 25, 30, 31, 32] [⟨some 30, .mv (.t 9), none, 0, []⟩,
    ⟨some 31, .len none (.t 30), none, 0, []⟩,
    ⟨some 32, .mv (.c (.int .i64 0)), none, 0, []⟩])
  (.block 2 (.loop [1, 4, 6, 8, 10, 23, 24, 25, 30, 31, 32] runs_Back_l1))))))
  (.reg false [1, 4, 6, 23, 24, 25] [⟨some 67, .bin .add .num (.t 25) (.c (.int .i64 1)), none, 0, []⟩,
    ⟨some 25, .mv (.t 67), none, 0, []⟩])))
/-- burin/runs.Back -/
def runs_Back : AFun := ⟨2, 70, true, [.cell 4 (some 3), .t 5],
  .seq (.reg false [0, 1, 4] [⟨some 4, .alloc [.int .i64 0, .int .i64 0, .sl none 0 0 0], none, 0, []⟩,
    ⟨some 5, .mv (.c (.int .i64 0)), none, 0, []⟩])
  (.seq (.reg false [0, 1, 4, 6, 7] [⟨some 14, .mv (.t 1), none, 0, []⟩,
    ⟨some 15, .mv (.t 0), none, 0, []⟩,
    ⟨some 16, .len none (.t 15), none, 0, []⟩,
    ⟨some 17, .call (.f 42) [(.t 14), (.t 16)], none, 0, []⟩,
    ⟨some 13, .mv (.t 17), none, 0, []⟩,
    ⟨some 18, .ext 0 (.t 13), none, 0, []⟩,
    ⟨some 19, .ext 1 (.t 13), none, 0, []⟩,
    ⟨some 6, .mv (.t 18), none, 0, []⟩,
    ⟨some 7, .mv (.t 19), none, 0, []⟩])
  (.seq (.seq (.reg false [0, 1, 4, 6, 21] [⟨some 20, .mv (.t 7), none, 0, []⟩,
    ⟨some 21, .bin .neq .num (.t 20) (.c (.int .i64 0)), none, 0, []⟩])
  (.cond (.t 21) (.seq (.reg false [4, 5] [⟨some 22, .build [.int .i64 0, .int .i64 0, .sl none 0 0 0] [], none, 0, []⟩,
    ⟨none, .store 3 (.t 4) (.t 22), none, 0, []⟩,
    ⟨some 5, .mv (.c (.int .i64 80)), none, 0, []⟩])
  (.ret))
  (.skip)))
  (.seq (.seq (.reg false [1, 4, 6, 23, 24, 25] [⟨some 23, .mv (.t 0), none, 0, []⟩,
    ⟨some 24, .len none (.t 23), none, 0, []⟩,
    ⟨some 25, .mv (.c (.int .i64 0)), none, 0, []⟩])
  (.block 0 (.loop [1, 4, 6, 23, 24, 25] runs_Back_l0)))
  (.seq (.reg false [4, 5] [⟨some 68, .mv (.t 6), none, 0, []⟩,
    ⟨some 69, .call (.f 45) [(.t 68)], none, 0, []⟩,
    ⟨none, .store 3 (.t 4) (.t 69), none, 0, []⟩,
    ⟨some 5, .mv (.c (.int .i64 0)), none, 0, []⟩])
  (.ret)))))⟩

/-- burin/runs.Touch -/
def runs_Touch : AFun := ⟨2, 31, true, [.t 4],
  .seq (.reg false [2, 3] [⟨some 2, .box 2 (.t 0), none, 0, []⟩,
    ⟨some 3, .box 2 (.t 1), none, 0, []⟩,
    ⟨some 4, .mv (.c (.bool false)), none, 0, []⟩])
  (.seq (.reg false [4] [⟨some 5, .fad 0 (.t 2), none, 0, []⟩,
    ⟨some 6, .load none (.t 5), none, 0, []⟩,
    ⟨some 7, .fad 1 (.t 2), none, 0, []⟩,
    ⟨some 8, .load none (.t 7), none, 0, []⟩,
    ⟨some 9, .bin .lss .num (.t 6) (.t 8), none, 0, []⟩,
    ⟨some 10, .mv (.t 9), none, 0, []⟩,
    ⟨some 11, .fad 0 (.t 3), some (10, true), 0, []⟩,
    ⟨some 12, .load none (.t 11), some (10, true), 0, []⟩,
    ⟨some 13, .fad 1 (.t 3), some (10, true), 0, []⟩,
    ⟨some 14, .load none (.t 13), some (10, true), 0, []⟩,
    ⟨some 15, .bin .lss .num (.t 12) (.t 14), some (10, true), 0, []⟩,
    ⟨some 16, .pick (.t 10) (.t 15) (.c (.bool false)), none, 0, []⟩,
    ⟨some 17, .mv (.t 16), none, 0, []⟩,
    ⟨some 18, .fad 0 (.t 2), some (17, true), 0, []⟩,
    ⟨some 19, .load none (.t 18), some (17, true), 0, []⟩,
    ⟨some 20, .fad 1 (.t 3), some (17, true), 0, []⟩,
    ⟨some 21, .load none (.t 20), some (17, true), 0, []⟩,
    ⟨some 22, .bin .leq .num (.t 19) (.t 21), some (17, true), 0, []⟩,
    ⟨some 23, .pick (.t 17) (.t 22) (.c (.bool false)), none, 0, []⟩,
    ⟨some 24, .mv (.t 23), none, 0, []⟩,
    ⟨some 25, .fad 0 (.t 3), some (24, true), 0, []⟩,
    ⟨some 26, .load none (.t 25), some (24, true), 0, []⟩,
    ⟨some 27, .fad 1 (.t 2), some (24, true), 0, []⟩,
    ⟨some 28, .load none (.t 27), some (24, true), 0, []⟩,
    ⟨some 29, .bin .leq .num (.t 26) (.t 28), some (24, true), 0, []⟩,
    ⟨some 30, .pick (.t 24) (.t 29) (.c (.bool false)), none, 0, []⟩,
    ⟨some 4, .mv (.t 30), none, 0, []⟩])
  (.ret))⟩

/-- A program that has them. -/
structure HasRu (P : Prog) : Prop where
  h_math_bits_LeadingZeros64 : P 113 = some math_bits_LeadingZeros64
  h_math_bits_Len64 : P 112 = some math_bits_Len64
  h_runs_ends : P 114 = some runs_ends
  h_runs_Of : P 115 = some runs_Of
  h_runs_Back : P 116 = some runs_Back
  h_runs_Touch : P 117 = some runs_Touch

end Go.Ab
