/- The texts of functions of the given program, for the abstract machine: written by wip/tools/gen.py out of Lean's print of the translation. Conditions: none; definitions alone. -/
import Derived.Test.YtfgecfbknpifjaaK1
set_option linter.all false
namespace Go.Ab
-- bitmap_sized: 39, parameters w h; loops 
-- bitmap_last: 40, parameters w; loops 
-- bitmap_Check: 41, parameters b; loops bitmap_Check_l0 [1 b, 3 words, 24 , 25 ]
-- bitmap_New: 42, parameters w h; loops 
-- bitmap_From: 44, parameters b; loops 
-- bitmap_Map_Plain: 45, parameters m; loops 
-- bitmap_Map_Size: 46, parameters m; loops 
-- bitmap_Map_inside: 47, parameters m x y; loops 
-- bitmap_Map_Get: 48, parameters m x y; loops 
-- bitmap_Map_put: 49, parameters m x y bit; loops 
-- bitmap_Map_Set: 50, parameters m x y bit; loops 
-- bitmap_Map_Count: 52, parameters m; loops bitmap_Map_Count_l0 [3 n, 9 , 10 , 11 ]
-- bitmap_cut: 53, parameters off n size; loops 
-- bitmap_both: 54, parameters a as b bs n; loops 
-- bitmap_mask: 55, parameters i x n; loops 
-- bitmap_Map_Fill: 56, parameters ? ? ? ? ? ?; loops bitmap_Map_Fill_l0 [0 ?, 1 ?, 2 ?, 5 ?, 14 ?, 15 ?, 16 ?]; bitmap_Map_Fill_l1 [0 ?, 1 ?, 2 ?, 5 ?, 14 ?, 15 ?, 16 ?, 17 ?]
-- bitmap_operations: 62, parameters ; loops 
-- bitmap_operations_1: 57, parameters d s; loops 
-- bitmap_operations_2: 58, parameters d s; loops 
-- bitmap_operations_3: 59, parameters d s; loops 
-- bitmap_operations_4: 60, parameters d s; loops 
-- bitmap_operations_5: 61, parameters d s; loops 
-- bitmap_word: 63, parameters row x; loops 
-- bitmap_Map_Blit: 64, parameters ? ? ? ? ? ? ? ? ?; loops bitmap_Map_Blit_l0 [0 ?, 1 ?, 2 ?, 3 ?, 4 ?, 5 ?, 6 ?, 7 ?, 19 ?, 20 ?, 90 ?, 91 ?]; bitmap_Map_Blit_l1 [0 ?, 1 ?, 2 ?, 3 ?, 4 ?, 5 ?, 6 ?, 7 ?, 19 ?, 20 ?, 21 ?, 23 ?, 90 ?, 91 ?]
-- bitmap_Map_Crop: 65, parameters m x y w h; loops 
-- bitmap_Map_Invert: 66, parameters m; loops bitmap_Map_Invert_l0 [0 m, 7 , 8 ]
-- bitmap_Map_turned: 67, parameters m w h from; loops bitmap_Map_turned_l0 [0 m, 1 w, 3 from, 9 c, 25 , 26 ]; bitmap_Map_turned_l1 [0 m, 1 w, 3 from, 9 c, 10 j, 25 , 26 , 29 , 30 ]
-- bitmap_Map_Mirror: 69, parameters m; loops 
-- bitmap_Map_Mirror_1: 68, parameters i j ; loops 
-- bitmap_Map_Turn: 71, parameters m; loops 
-- bitmap_Map_Turn_1: 70, parameters i j ; loops 
-- bitmap_Equal: 73, parameters a b; loops 
-- slices_Clone_uint64_uint64: 43, parameters s; loops 
-- slices_Equal_uint64_uint64: 72, parameters s1 s2; loops slices_Equal_uint64_uint64_l0 [0 s1, 1 s2, 12 , 13 ]
-- math_bits_OnesCount64: 51, parameters x; loops 

/-- burin/bitmap.sized -/
def bitmap_sized : AFun := ⟨2, 25, true, [.t 4],
  .seq (.reg false [0, 1] [⟨some 4, .mv (.c (.bool false)), none, 0, []⟩])
  (.seq (.reg false [4] [⟨some 5, .mv (.t 0), none, 0, []⟩,
    ⟨some 6, .bin .geq .num (.t 5) (.c (.int .i64 1)), none, 0, []⟩,
    ⟨some 7, .mv (.t 6), none, 0, []⟩,
    ⟨some 8, .mv (.t 1), some (7, true), 0, []⟩,
    ⟨some 9, .bin .geq .num (.t 8) (.c (.int .i64 1)), some (7, true), 0, []⟩,
    ⟨some 10, .pick (.t 7) (.t 9) (.c (.bool false)), none, 0, []⟩,
    ⟨some 11, .mv (.t 10), none, 0, []⟩,
    ⟨some 12, .mv (.t 0), some (11, true), 0, []⟩,
    ⟨some 13, .bin .leq .num (.t 12) (.c (.int .i64 1048576)), some (11, true), 0, []⟩,
    ⟨some 14, .pick (.t 11) (.t 13) (.c (.bool false)), none, 0, []⟩,
    ⟨some 15, .mv (.t 14), none, 0, []⟩,
    ⟨some 16, .mv (.t 1), some (15, true), 0, []⟩,
    ⟨some 17, .bin .leq .num (.t 16) (.c (.int .i64 1048576)), some (15, true), 0, []⟩,
    ⟨some 18, .pick (.t 15) (.t 17) (.c (.bool false)), none, 0, []⟩,
    ⟨some 19, .mv (.t 18), none, 0, []⟩,
    ⟨some 20, .mv (.t 0), some (19, true), 0, []⟩,
    ⟨some 21, .mv (.t 1), some (19, true), 0, []⟩,
    ⟨some 22, .bin .mul .num (.t 20) (.t 21), some (19, true), 0, []⟩,
    ⟨some 23, .bin .leq .num (.t 22) (.c (.int .i64 1048576)), some (19, true), 0, []⟩,
    ⟨some 24, .pick (.t 19) (.t 23) (.c (.bool false)), none, 0, []⟩,
    ⟨some 4, .mv (.t 24), none, 0, []⟩])
  (.ret))⟩

/-- burin/bitmap.last -/
def bitmap_last : AFun := ⟨1, 8, true, [.t 2],
  .seq (.reg false [0] [⟨some 2, .mv (.c (.int .u64 0)), none, 0, []⟩])
  (.seq (.reg false [2] [⟨some 3, .mv (.t 0), none, 0, []⟩,
    ⟨some 4, .bin .rem .num (.t 3) (.c (.int .i64 64)), none, 0, []⟩,
    ⟨some 5, .bin .sub .num (.c (.int .i64 64)) (.t 4), none, 0, []⟩,
    ⟨some 6, .bin .rem .num (.t 5) (.c (.int .i64 64)), none, 0, []⟩,
    ⟨some 7, .bin .shl .num (.c (.int .u64 18446744073709551615)) (.t 6), none, 0, []⟩,
    ⟨some 2, .mv (.t 7), none, 0, []⟩])
  (.ret))⟩

def bitmap_Check_l0 : Cd := .seq (.reg false [1, 3, 24, 25, 26] [⟨some 26, .bin .lss .num (.t 25) (.t 24), none, 0, []⟩])
  (.seq (.cond (.t 26) (.skip)
  (.exit 0))
  (.seq (.block 1 (.seq (.reg false [1, 3, 4, 24, 25] [⟨some 27, .mv (.t 25), none, 0, []⟩,
    ⟨some 4, .mv (.t 27), none, 0, []⟩])
  (.seq (.reg true [1, 3, 24, 25, 42] [⟨some 28, .fad 2 (.t 1), none, 0, []⟩,
    ⟨some 29, .load none (.t 28), none, 1, []⟩,
    ⟨some 30, .mv (.t 4), none, 2, []⟩,
    ⟨some 31, .mv (.t 3), none, 3, []⟩,
    ⟨some 32, .bin .mul .num (.t 30) (.t 31), none, 4, []⟩,
    ⟨some 33, .mv (.t 3), none, 5, []⟩,
    ⟨some 34, .bin .add .num (.t 32) (.t 33), none, 6, []⟩,
    ⟨some 35, .bin .sub .num (.t 34) (.c (.int .i64 1)), none, 7, []⟩,
    ⟨some 36, .iad none 1 (.t 29) (.t 35), none, 8, []⟩,
    ⟨some 37, .load none (.t 36), none, 9, []⟩,
    ⟨some 38, .fad 0 (.t 1), none, 10, []⟩,
    ⟨some 39, .load none (.t 38), none, 11, []⟩,
    ⟨some 40, .call (.f 40) [(.t 39)], none, 12, [1, 9]⟩,
    ⟨some 41, .bin .andNot .num (.t 37) (.t 40), none, 13, []⟩,
    ⟨some 42, .bin .neq .num (.t 41) (.c (.int .u64 0)), none, 14, []⟩])
  (.cond (.t 42) (.seq (.reg false [2] [⟨some 2, .mv (.c (.bool false)), none, 0, []⟩])
  (.ret))
  (.skip)))))
  (.reg false [1, 3, 24, 25] [⟨some 43, .bin .add .num (.t 25) (.c (.int .i64 1)), none, 0, []⟩,
    ⟨some 25, .mv (.t 43), none, 0, []⟩])))
/-- burin/bitmap.Check -/
def bitmap_Check : AFun := ⟨1, 44, true, [.t 2],
  .seq (.reg false [1] [⟨some 1, .box 3 (.t 0), none, 0, []⟩,
    ⟨some 2, .mv (.c (.bool false)), none, 0, []⟩])
  (.seq (.seq (.reg false [1, 10] [⟨some 5, .fad 0 (.t 1), none, 0, []⟩,
    ⟨some 6, .load none (.t 5), none, 0, []⟩,
    ⟨some 7, .fad 1 (.t 1), none, 0, []⟩,
    ⟨some 8, .load none (.t 7), none, 0, []⟩,
    ⟨some 9, .call (.f 39) [(.t 6), (.t 8)], none, 0, []⟩,
    ⟨some 10, .un .not (.t 9), none, 0, []⟩])
  (.cond (.t 10) (.seq (.reg false [2] [⟨some 2, .mv (.c (.bool false)), none, 0, []⟩])
  (.ret))
  (.skip)))
  (.seq (.reg false [1, 3] [⟨some 11, .fad 0 (.t 1), none, 0, []⟩,
    ⟨some 12, .load none (.t 11), none, 0, []⟩,
    ⟨some 13, .bin .add .num (.t 12) (.c (.int .i64 63)), none, 0, []⟩,
    ⟨some 14, .bin .quo .num (.t 13) (.c (.int .i64 64)), none, 0, []⟩,
    ⟨some 3, .mv (.t 14), none, 0, []⟩])
  (.seq (.seq (.reg false [1, 3, 22] [⟨some 15, .fad 2 (.t 1), none, 0, []⟩,
    ⟨some 16, .load none (.t 15), none, 0, []⟩,
    ⟨some 17, .len none (.t 16), none, 0, []⟩,
    ⟨some 18, .fad 1 (.t 1), none, 0, []⟩,
    ⟨some 19, .load none (.t 18), none, 0, []⟩,
    ⟨some 20, .mv (.t 3), none, 0, []⟩,
    ⟨some 21, .bin .mul .num (.t 19) (.t 20), none, 0, []⟩,
    ⟨some 22, .bin .neq .num (.t 17) (.t 21), none, 0, []⟩])
  (.cond (.t 22) (.seq (.reg false [2] [⟨some 2, .mv (.c (.bool false)), none, 0, []⟩])
  (.ret))
  (.skip)))
  (.seq (.seq (.reg false [1, 3, 24, 25] [⟨some 23, .fad 1 (.t 1), none, 0, []⟩,
    ⟨some 24, .load none (.t 23), none, 0, []⟩,
    ⟨some 25, .mv (.c (.int .i64 0)), none, 0, []⟩])
  (.block 0 (.loop [1, 3, 24, 25] bitmap_Check_l0)))
  (.seq (.reg false [2] [⟨some 2, .mv (.c (.bool true)), none, 0, []⟩])
  (.ret))))))⟩

/-- burin/bitmap.New -/
def bitmap_New : AFun := ⟨2, 23, true, [.t 4, .t 5],
  .seq (.reg false [0, 1] [⟨some 4, .mv (.c (.ptr none)), none, 0, []⟩,
    ⟨some 5, .mv (.c (.int .i64 0)), none, 0, []⟩])
  (.seq (.seq (.reg false [0, 1, 10] [⟨some 7, .mv (.t 0), none, 0, []⟩,
    ⟨some 8, .mv (.t 1), none, 0, []⟩,
    ⟨some 9, .call (.f 39) [(.t 7), (.t 8)], none, 0, []⟩,
    ⟨some 10, .un .not (.t 9), none, 0, []⟩])
  (.cond (.t 10) (.seq (.reg false [4, 5] [⟨some 4, .mv (.c (.ptr none)), none, 0, []⟩,
    ⟨some 5, .mv (.c (.int .i64 20)), none, 0, []⟩])
  (.ret))
  (.skip)))
  (.seq (.reg false [0, 1, 6] [⟨some 11, .mv (.t 0), none, 0, []⟩,
    ⟨some 12, .bin .add .num (.t 11) (.c (.int .i64 63)), none, 0, []⟩,
    ⟨some 13, .bin .quo .num (.t 12) (.c (.int .i64 64)), none, 0, []⟩,
    ⟨some 6, .mv (.t 13), none, 0, []⟩])
  (.seq (.reg false [4, 5] [⟨some 14, .mv (.t 0), none, 0, []⟩,
    ⟨some 15, .mv (.t 1), none, 0, []⟩,
    ⟨some 16, .mv (.t 6), none, 0, []⟩,
    ⟨some 17, .mv (.t 1), none, 0, []⟩,
    ⟨some 18, .mv (.t 6), none, 0, []⟩,
    ⟨some 19, .bin .mul .num (.t 17) (.t 18), none, 0, []⟩,
    ⟨some 20, .mkslice 1 8 [.int .u64 0] (.t 19) (.t 19), none, 0, []⟩,
    ⟨some 21, .build [.int .i64 0, .int .i64 0, .int .i64 0, .sl none 0 0 0] [(0, 1, (.t 14)), (1, 1, (.t 15)), (2, 1, (.t 16)), (3, 1, (.t 20))], none, 0, []⟩,
    ⟨some 22, .box 4 (.t 21), none, 0, []⟩,
    ⟨some 4, .mv (.t 22), none, 0, []⟩,
    ⟨some 5, .mv (.c (.int .i64 0)), none, 0, []⟩])
  (.ret))))⟩

/-- burin/bitmap.From -/
def bitmap_From : AFun := ⟨1, 20, true, [.t 2, .t 3],
  .seq (.reg false [1] [⟨some 1, .box 3 (.t 0), none, 0, []⟩,
    ⟨some 2, .mv (.c (.ptr none)), none, 0, []⟩,
    ⟨some 3, .mv (.c (.int .i64 0)), none, 0, []⟩])
  (.seq (.seq (.reg false [1, 6] [⟨some 4, .load (some 3) (.t 1), none, 0, []⟩,
    ⟨some 5, .call (.f 41) [(.t 4)], none, 0, []⟩,
    ⟨some 6, .un .not (.t 5), none, 0, []⟩])
  (.cond (.t 6) (.seq (.reg false [2, 3] [⟨some 2, .mv (.c (.ptr none)), none, 0, []⟩,
    ⟨some 3, .mv (.c (.int .i64 21)), none, 0, []⟩])
  (.ret))
  (.skip)))
  (.seq (.reg true [2, 3] [⟨some 7, .fad 0 (.t 1), none, 0, []⟩,
    ⟨some 8, .load none (.t 7), none, 1, []⟩,
    ⟨some 9, .fad 1 (.t 1), none, 2, []⟩,
    ⟨some 10, .load none (.t 9), none, 3, []⟩,
    ⟨some 11, .fad 0 (.t 1), none, 4, []⟩,
    ⟨some 12, .load none (.t 11), none, 5, []⟩,
    ⟨some 13, .bin .add .num (.t 12) (.c (.int .i64 63)), none, 6, []⟩,
    ⟨some 14, .bin .quo .num (.t 13) (.c (.int .i64 64)), none, 7, []⟩,
    ⟨some 15, .fad 2 (.t 1), none, 8, []⟩,
    ⟨some 16, .load none (.t 15), none, 9, []⟩,
    ⟨some 17, .call (.f 43) [(.t 16)], none, 10, [1, 3, 5]⟩,
    ⟨some 18, .build [.int .i64 0, .int .i64 0, .int .i64 0, .sl none 0 0 0] [(0, 1, (.t 8)), (1, 1, (.t 10)), (2, 1, (.t 14)), (3, 1, (.t 17))], none, 11, []⟩,
    ⟨some 19, .box 4 (.t 18), none, 12, []⟩,
    ⟨some 2, .mv (.t 19), none, 13, []⟩,
    ⟨some 3, .mv (.c (.int .i64 0)), none, 14, []⟩])
  (.ret)))⟩

/-- (*burin/bitmap.Map).Plain -/
def bitmap_Map_Plain : AFun := ⟨1, 17, true, [.cell 2 (some 3)],
  .seq (.reg false [0, 2] [⟨some 2, .alloc [.int .i64 0, .int .i64 0, .sl none 0 0 0], none, 0, []⟩])
  (.seq (.reg true [2] [⟨some 3, .mv (.t 0), none, 0, []⟩,
    ⟨some 4, .nilck (.t 3), none, 1, []⟩,
    ⟨some 5, .fad 0 (.t 4), none, 2, []⟩,
    ⟨some 6, .load none (.t 5), none, 3, []⟩,
    ⟨some 7, .mv (.t 0), none, 4, []⟩,
    ⟨some 8, .nilck (.t 7), none, 5, []⟩,
    ⟨some 9, .fad 1 (.t 8), none, 6, []⟩,
    ⟨some 10, .load none (.t 9), none, 7, []⟩,
    ⟨some 11, .mv (.t 0), none, 8, []⟩,
    ⟨some 12, .nilck (.t 11), none, 9, []⟩,
    ⟨some 13, .fad 3 (.t 12), none, 10, []⟩,
    ⟨some 14, .load none (.t 13), none, 11, []⟩,
    ⟨some 15, .call (.f 43) [(.t 14)], none, 12, [3, 7]⟩,
    ⟨some 16, .build [.int .i64 0, .int .i64 0, .sl none 0 0 0] [(0, 1, (.t 6)), (1, 1, (.t 10)), (2, 1, (.t 15))], none, 13, []⟩,
    ⟨none, .store 3 (.t 2) (.t 16), none, 14, []⟩])
  (.ret))⟩

/-- (*burin/bitmap.Map).Size -/
def bitmap_Map_Size : AFun := ⟨1, 12, true, [.t 2, .t 3],
  .seq (.reg false [0] [⟨some 2, .mv (.c (.int .i64 0)), none, 0, []⟩,
    ⟨some 3, .mv (.c (.int .i64 0)), none, 0, []⟩])
  (.seq (.reg true [2, 3] [⟨some 4, .mv (.t 0), none, 0, []⟩,
    ⟨some 5, .nilck (.t 4), none, 1, []⟩,
    ⟨some 6, .fad 0 (.t 5), none, 2, []⟩,
    ⟨some 7, .load none (.t 6), none, 3, []⟩,
    ⟨some 8, .mv (.t 0), none, 4, []⟩,
    ⟨some 9, .nilck (.t 8), none, 5, []⟩,
    ⟨some 10, .fad 1 (.t 9), none, 6, []⟩,
    ⟨some 11, .load none (.t 10), none, 7, []⟩,
    ⟨some 2, .mv (.t 7), none, 8, []⟩,
    ⟨some 3, .mv (.t 11), none, 9, []⟩])
  (.ret))⟩

/-- (*burin/bitmap.Map).inside -/
def bitmap_Map_inside : AFun := ⟨3, 29, true, [.t 6],
  .seq (.reg false [0, 1, 2] [⟨some 6, .mv (.c (.bool false)), none, 0, []⟩])
  (.seq (.reg false [6] [⟨some 7, .mv (.t 1), none, 0, []⟩,
    ⟨some 8, .bin .geq .num (.t 7) (.c (.int .i64 0)), none, 0, []⟩,
    ⟨some 9, .mv (.t 8), none, 0, []⟩,
    ⟨some 10, .mv (.t 1), some (9, true), 0, []⟩,
    ⟨some 11, .mv (.t 0), some (9, true), 0, []⟩,
    ⟨some 12, .nilck (.t 11), some (9, true), 0, []⟩,
    ⟨some 13, .fad 0 (.t 12), some (9, true), 0, []⟩,
    ⟨some 14, .load none (.t 13), some (9, true), 0, []⟩,
    ⟨some 15, .bin .lss .num (.t 10) (.t 14), some (9, true), 0, []⟩,
    ⟨some 16, .pick (.t 9) (.t 15) (.c (.bool false)), none, 0, []⟩,
    ⟨some 17, .mv (.t 16), none, 0, []⟩,
    ⟨some 18, .mv (.t 2), some (17, true), 0, []⟩,
    ⟨some 19, .bin .geq .num (.t 18) (.c (.int .i64 0)), some (17, true), 0, []⟩,
    ⟨some 20, .pick (.t 17) (.t 19) (.c (.bool false)), none, 0, []⟩,
    ⟨some 21, .mv (.t 20), none, 0, []⟩,
    ⟨some 22, .mv (.t 2), some (21, true), 0, []⟩,
    ⟨some 23, .mv (.t 0), some (21, true), 0, []⟩,
    ⟨some 24, .nilck (.t 23), some (21, true), 0, []⟩,
    ⟨some 25, .fad 1 (.t 24), some (21, true), 0, []⟩,
    ⟨some 26, .load none (.t 25), some (21, true), 0, []⟩,
    ⟨some 27, .bin .lss .num (.t 22) (.t 26), some (21, true), 0, []⟩,
    ⟨some 28, .pick (.t 21) (.t 27) (.c (.bool false)), none, 0, []⟩,
    ⟨some 6, .mv (.t 28), none, 0, []⟩])
  (.ret))⟩

/-- (*burin/bitmap.Map).Get -/
def bitmap_Map_Get : AFun := ⟨3, 33, true, [.t 6],
  .seq (.reg false [0, 1, 2] [⟨some 6, .mv (.c (.int .i64 0)), none, 0, []⟩])
  (.seq (.seq (.reg false [0, 1, 2, 11] [⟨some 7, .mv (.t 0), none, 0, []⟩,
    ⟨some 8, .mv (.t 1), none, 0, []⟩,
    ⟨some 9, .mv (.t 2), none, 0, []⟩,
    ⟨some 10, .call (.f 47) [(.t 7), (.t 8), (.t 9)], none, 0, []⟩,
    ⟨some 11, .un .not (.t 10), none, 0, []⟩])
  (.cond (.t 11) (.seq (.reg false [6] [⟨some 6, .mv (.c (.int .i64 0)), none, 0, []⟩])
  (.ret))
  (.skip)))
  (.seq (.reg true [6] [⟨some 12, .mv (.t 0), none, 0, []⟩,
    ⟨some 13, .nilck (.t 12), none, 1, []⟩,
    ⟨some 14, .fad 3 (.t 13), none, 2, []⟩,
    ⟨some 15, .load none (.t 14), none, 3, []⟩,
    ⟨some 16, .mv (.t 2), none, 4, []⟩,
    ⟨some 17, .mv (.t 0), none, 5, []⟩,
    ⟨some 18, .nilck (.t 17), none, 6, []⟩,
    ⟨some 19, .fad 2 (.t 18), none, 7, []⟩,
    ⟨some 20, .load none (.t 19), none, 8, []⟩,
    ⟨some 21, .bin .mul .num (.t 16) (.t 20), none, 9, []⟩,
    ⟨some 22, .mv (.t 1), none, 10, []⟩,
    ⟨some 23, .bin .quo .num (.t 22) (.c (.int .i64 64)), none, 11, []⟩,
    ⟨some 24, .bin .add .num (.t 21) (.t 23), none, 12, []⟩,
    ⟨some 25, .iad none 1 (.t 15) (.t 24), none, 13, []⟩,
    ⟨some 26, .load none (.t 25), none, 14, []⟩,
    ⟨some 27, .mv (.t 1), none, 15, []⟩,
    ⟨some 28, .bin .rem .num (.t 27) (.c (.int .i64 64)), none, 16, []⟩,
    ⟨some 29, .bin .sub .num (.c (.int .i64 63)) (.t 28), none, 17, []⟩,
    ⟨some 30, .bin .shr .num (.t 26) (.t 29), none, 18, []⟩,
    ⟨some 31, .bin .and .num (.t 30) (.c (.int .u64 1)), none, 19, []⟩,
    ⟨some 32, .conv .i64 (.t 31), none, 20, []⟩,
    ⟨some 6, .mv (.t 32), none, 21, []⟩])
  (.ret)))⟩

/-- (*burin/bitmap.Map).put -/
def bitmap_Map_put : AFun := ⟨4, 40, true, [],
  .seq (.reg true [1, 3, 8] [⟨some 9, .mv (.t 0), none, 0, []⟩,
    ⟨some 10, .nilck (.t 9), none, 1, []⟩,
    ⟨some 11, .fad 3 (.t 10), none, 2, []⟩,
    ⟨some 12, .load none (.t 11), none, 3, []⟩,
    ⟨some 13, .mv (.t 2), none, 4, []⟩,
    ⟨some 14, .mv (.t 0), none, 5, []⟩,
    ⟨some 15, .nilck (.t 14), none, 6, []⟩,
    ⟨some 16, .fad 2 (.t 15), none, 7, []⟩,
    ⟨some 17, .load none (.t 16), none, 8, []⟩,
    ⟨some 18, .bin .mul .num (.t 13) (.t 17), none, 9, []⟩,
    ⟨some 19, .mv (.t 1), none, 10, []⟩,
    ⟨some 20, .bin .quo .num (.t 19) (.c (.int .i64 64)), none, 11, []⟩,
    ⟨some 21, .bin .add .num (.t 18) (.t 20), none, 12, []⟩,
    ⟨some 22, .iad none 1 (.t 12) (.t 21), none, 13, []⟩,
    ⟨some 8, .mv (.t 22), none, 14, []⟩])
  (.reg true [] [⟨some 23, .mv (.t 8), none, 0, []⟩,
    ⟨some 24, .mv (.t 8), none, 1, []⟩,
    ⟨some 25, .nilck (.t 24), none, 2, []⟩,
    ⟨some 26, .load none (.t 25), none, 3, []⟩,
    ⟨some 27, .mv (.t 1), none, 4, []⟩,
    ⟨some 28, .bin .rem .num (.t 27) (.c (.int .i64 64)), none, 5, []⟩,
    ⟨some 29, .bin .sub .num (.c (.int .i64 63)) (.t 28), none, 6, []⟩,
    ⟨some 30, .bin .shl .num (.c (.int .u64 1)) (.t 29), none, 7, []⟩,
    ⟨some 31, .bin .andNot .num (.t 26) (.t 30), none, 8, []⟩,
    ⟨some 32, .mv (.t 3), none, 9, []⟩,
    ⟨some 33, .conv .u64 (.t 32), none, 10, []⟩,
    ⟨some 34, .mv (.t 1), none, 11, []⟩,
    ⟨some 35, .bin .rem .num (.t 34) (.c (.int .i64 64)), none, 12, []⟩,
    ⟨some 36, .bin .sub .num (.c (.int .i64 63)) (.t 35), none, 13, []⟩,
    ⟨some 37, .bin .shl .num (.t 33) (.t 36), none, 14, []⟩,
    ⟨some 38, .bin .or .num (.t 31) (.t 37), none, 15, []⟩,
    ⟨some 39, .nilck (.t 23), none, 16, []⟩,
    ⟨none, .store 1 (.t 39) (.t 38), none, 17, []⟩])⟩

/-- (*burin/bitmap.Map).Set -/
def bitmap_Map_Set : AFun := ⟨4, 27, true, [.t 8],
  .seq (.reg false [0, 1, 2, 3] [⟨some 8, .mv (.c (.int .i64 0)), none, 0, []⟩])
  (.seq (.block 0 (.seq (.reg false [0, 1, 2, 3, 9] [⟨some 10, .mv (.t 0), none, 0, []⟩,
    ⟨some 11, .mv (.t 1), none, 0, []⟩,
    ⟨some 12, .mv (.t 2), none, 0, []⟩,
    ⟨some 13, .call (.f 47) [(.t 10), (.t 11), (.t 12)], none, 0, []⟩,
    ⟨some 14, .un .not (.t 13), none, 0, []⟩,
    ⟨some 9, .mv (.t 14), none, 0, []⟩])
  (.cond (.t 9) (.seq (.reg false [8] [⟨some 8, .mv (.c (.int .i64 22)), none, 0, []⟩])
  (.ret))
  (.seq (.reg false [0, 1, 2, 3, 15] [⟨some 16, .mv (.t 3), none, 0, []⟩,
    ⟨some 17, .bin .neq .num (.t 16) (.c (.int .i64 0)), none, 0, []⟩,
    ⟨some 18, .mv (.t 17), none, 0, []⟩,
    ⟨some 19, .mv (.t 3), some (18, true), 0, []⟩,
    ⟨some 20, .bin .neq .num (.t 19) (.c (.int .i64 1)), some (18, true), 0, []⟩,
    ⟨some 21, .pick (.t 18) (.t 20) (.c (.bool false)), none, 0, []⟩,
    ⟨some 15, .mv (.t 21), none, 0, []⟩])
  (.cond (.t 15) (.seq (.reg false [8] [⟨some 8, .mv (.c (.int .i64 23)), none, 0, []⟩])
  (.ret))
  (.skip))))))
  (.seq (.reg false [] [⟨some 22, .mv (.t 0), none, 0, []⟩,
    ⟨some 23, .mv (.t 1), none, 0, []⟩,
    ⟨some 24, .mv (.t 2), none, 0, []⟩,
    ⟨some 25, .mv (.t 3), none, 0, []⟩,
    ⟨some 26, .call (.f 49) [(.t 22), (.t 23), (.t 24), (.t 25)], none, 0, []⟩])
  (.seq (.reg false [8] [⟨some 8, .mv (.c (.int .i64 0)), none, 0, []⟩])
  (.ret))))⟩

def bitmap_Map_Count_l0 : Cd := .seq (.reg false [3, 9, 10, 11, 12] [⟨some 12, .bin .lss .num (.t 11) (.t 10), none, 0, []⟩])
  (.seq (.cond (.t 12) (.skip)
  (.exit 0))
  (.seq (.block 1 (.seq (.reg false [3, 5, 9, 10, 11] [⟨some 13, .iad none 1 (.t 9) (.t 11), none, 0, []⟩,
    ⟨some 14, .load none (.t 13), none, 0, []⟩,
    ⟨some 5, .mv (.t 14), none, 0, []⟩])
  (.reg false [3, 9, 10, 11] [⟨some 15, .mv (.t 3), none, 0, []⟩,
    ⟨some 16, .mv (.t 5), none, 0, []⟩,
    ⟨some 17, .call (.f 51) [(.t 16)], none, 0, []⟩,
    ⟨some 18, .bin .add .num (.t 15) (.t 17), none, 0, []⟩,
    ⟨some 3, .mv (.t 18), none, 0, []⟩])))
  (.reg false [3, 9, 10, 11] [⟨some 19, .bin .add .num (.t 11) (.c (.int .i64 1)), none, 0, []⟩,
    ⟨some 11, .mv (.t 19), none, 0, []⟩])))
/-- (*burin/bitmap.Map).Count -/
def bitmap_Map_Count : AFun := ⟨1, 21, true, [.t 2],
  .seq (.reg false [0] [⟨some 2, .mv (.c (.int .i64 0)), none, 0, []⟩])
  (.seq (.reg false [0, 3] [⟨some 3, .mv (.c (.int .i64 0)), none, 0, []⟩])
  (.seq (.seq (.reg false [3, 9, 10, 11] [⟨some 6, .mv (.t 0), none, 0, []⟩,
    ⟨some 7, .nilck (.t 6), none, 0, []⟩,
    ⟨some 8, .fad 3 (.t 7), none, 0, []⟩,
    ⟨some 9, .load none (.t 8), none, 0, []⟩,
    ⟨some 10, .len none (.t 9), none, 0, []⟩,
    ⟨some 11, .mv (.c (.int .i64 0)), none, 0, []⟩])
  (.block 0 (.loop [3, 9, 10, 11] bitmap_Map_Count_l0)))
  (.seq (.reg false [2] [⟨some 20, .mv (.t 3), none, 0, []⟩,
    ⟨some 2, .mv (.t 20), none, 0, []⟩])
  (.ret))))⟩

/-- burin/bitmap.cut -/
def bitmap_cut : AFun := ⟨3, 33, true, [.t 6, .t 7],
  .seq (.reg false [0, 1, 2] [⟨some 6, .mv (.c (.int .i64 0)), none, 0, []⟩,
    ⟨some 7, .mv (.c (.int .i64 0)), none, 0, []⟩])
  (.seq (.block 0 (.seq (.seq (.reg false [0, 1, 2, 8] [⟨some 9, .mv (.t 1), none, 0, []⟩,
    ⟨some 10, .bin .leq .num (.t 9) (.c (.int .i64 0)), none, 0, []⟩,
    ⟨some 8, .mv (.t 10), none, 0, []⟩])
  (.cond (.t 8) (.skip)
  (.seq (.reg false [0, 1, 2, 8] [⟨some 11, .mv (.t 0), none, 0, []⟩,
    ⟨some 12, .mv (.t 2), none, 0, []⟩,
    ⟨some 13, .bin .geq .num (.t 11) (.t 12), none, 0, []⟩,
    ⟨some 8, .mv (.t 13), none, 0, []⟩])
  (.cond (.t 8) (.skip)
  (.reg false [0, 1, 2, 8] [⟨some 14, .mv (.t 0), none, 0, []⟩,
    ⟨some 15, .mv (.t 1), none, 0, []⟩,
    ⟨some 16, .un .neg (.t 15), none, 0, []⟩,
    ⟨some 17, .bin .leq .num (.t 14) (.t 16), none, 0, []⟩,
    ⟨some 8, .mv (.t 17), none, 0, []⟩])))))
  (.cond (.t 8) (.seq (.reg false [6, 7] [⟨some 6, .mv (.c (.int .i64 0)), none, 0, []⟩,
    ⟨some 7, .mv (.c (.int .i64 0)), none, 0, []⟩])
  (.ret))
  (.seq (.reg false [0, 1, 2, 18] [⟨some 19, .mv (.t 0), none, 0, []⟩,
    ⟨some 20, .bin .geq .num (.t 19) (.c (.int .i64 0)), none, 0, []⟩,
    ⟨some 18, .mv (.t 20), none, 0, []⟩])
  (.cond (.t 18) (.seq (.reg false [6, 7] [⟨some 21, .mv (.t 1), none, 0, []⟩,
    ⟨some 22, .mv (.t 2), none, 0, []⟩,
    ⟨some 23, .mv (.t 0), none, 0, []⟩,
    ⟨some 24, .bin .sub .num (.t 22) (.t 23), none, 0, []⟩,
    ⟨some 25, .mm false [(.t 21), (.t 24)], none, 0, []⟩,
    ⟨some 6, .mv (.c (.int .i64 0)), none, 0, []⟩,
    ⟨some 7, .mv (.t 25), none, 0, []⟩])
  (.ret))
  (.skip))))))
  (.seq (.reg false [6, 7] [⟨some 26, .mv (.t 0), none, 0, []⟩,
    ⟨some 27, .un .neg (.t 26), none, 0, []⟩,
    ⟨some 28, .mv (.t 1), none, 0, []⟩,
    ⟨some 29, .mv (.t 0), none, 0, []⟩,
    ⟨some 30, .bin .add .num (.t 28) (.t 29), none, 0, []⟩,
    ⟨some 31, .mv (.t 2), none, 0, []⟩,
    ⟨some 32, .mm false [(.t 30), (.t 31)], none, 0, []⟩,
    ⟨some 6, .mv (.t 27), none, 0, []⟩,
    ⟨some 7, .mv (.t 32), none, 0, []⟩])
  (.ret)))⟩

/-- burin/bitmap.both -/
def bitmap_both : AFun := ⟨5, 49, true, [.t 10, .t 11, .t 12],
  .seq (.reg false [0, 1, 2, 3, 4] [⟨some 10, .mv (.c (.int .i64 0)), none, 0, []⟩,
    ⟨some 11, .mv (.c (.int .i64 0)), none, 0, []⟩,
    ⟨some 12, .mv (.c (.int .i64 0)), none, 0, []⟩])
  (.seq (.reg false [0, 2, 3, 12, 13] [⟨some 15, .mv (.t 0), none, 0, []⟩,
    ⟨some 16, .mv (.t 4), none, 0, []⟩,
    ⟨some 17, .mv (.t 1), none, 0, []⟩,
    ⟨some 18, .call (.f 53) [(.t 15), (.t 16), (.t 17)], none, 0, []⟩,
    ⟨some 14, .mv (.t 18), none, 0, []⟩,
    ⟨some 19, .ext 0 (.t 14), none, 0, []⟩,
    ⟨some 20, .ext 1 (.t 14), none, 0, []⟩,
    ⟨some 13, .mv (.t 19), none, 0, []⟩,
    ⟨some 12, .mv (.t 20), none, 0, []⟩])
  (.seq (.seq (.reg false [0, 2, 3, 12, 13, 28] [⟨some 21, .mv (.t 12), none, 0, []⟩,
    ⟨some 22, .bin .eql .num (.t 21) (.c (.int .i64 0)), none, 0, []⟩,
    ⟨some 23, .mv (.t 22), none, 0, []⟩,
    ⟨some 24, .mv (.t 2), some (23, false), 0, []⟩,
    ⟨some 25, .mv (.t 13), some (23, false), 0, []⟩,
    ⟨some 26, .bin .sub .num (.c (.int .i64 9223372036854775807)) (.t 25), some (23, false), 0, []⟩,
    ⟨some 27, .bin .gtr .num (.t 24) (.t 26), some (23, false), 0, []⟩,
    ⟨some 28, .pick (.t 23) (.c (.bool true)) (.t 27), none, 0, []⟩])
  (.cond (.t 28) (.seq (.reg false [10, 11, 12] [⟨some 10, .mv (.c (.int .i64 0)), none, 0, []⟩,
    ⟨some 11, .mv (.c (.int .i64 0)), none, 0, []⟩,
    ⟨some 12, .mv (.c (.int .i64 0)), none, 0, []⟩])
  (.ret))
  (.skip)))
  (.seq (.reg false [0, 2, 3, 12] [⟨some 29, .mv (.t 0), none, 0, []⟩,
    ⟨some 30, .mv (.t 13), none, 0, []⟩,
    ⟨some 31, .bin .add .num (.t 29) (.t 30), none, 0, []⟩,
    ⟨some 32, .mv (.t 2), none, 0, []⟩,
    ⟨some 33, .mv (.t 13), none, 0, []⟩,
    ⟨some 34, .bin .add .num (.t 32) (.t 33), none, 0, []⟩,
    ⟨some 0, .mv (.t 31), none, 0, []⟩,
    ⟨some 2, .mv (.t 34), none, 0, []⟩])
  (.seq (.reg false [0, 2, 12, 13] [⟨some 36, .mv (.t 2), none, 0, []⟩,
    ⟨some 37, .mv (.t 12), none, 0, []⟩,
    ⟨some 38, .mv (.t 3), none, 0, []⟩,
    ⟨some 39, .call (.f 53) [(.t 36), (.t 37), (.t 38)], none, 0, []⟩,
    ⟨some 35, .mv (.t 39), none, 0, []⟩,
    ⟨some 40, .ext 0 (.t 35), none, 0, []⟩,
    ⟨some 41, .ext 1 (.t 35), none, 0, []⟩,
    ⟨some 13, .mv (.t 40), none, 0, []⟩,
    ⟨some 12, .mv (.t 41), none, 0, []⟩])
  (.seq (.reg false [10, 11, 12] [⟨some 42, .mv (.t 0), none, 0, []⟩,
    ⟨some 43, .mv (.t 13), none, 0, []⟩,
    ⟨some 44, .bin .add .num (.t 42) (.t 43), none, 0, []⟩,
    ⟨some 45, .mv (.t 2), none, 0, []⟩,
    ⟨some 46, .mv (.t 13), none, 0, []⟩,
    ⟨some 47, .bin .add .num (.t 45) (.t 46), none, 0, []⟩,
    ⟨some 48, .mv (.t 12), none, 0, []⟩,
    ⟨some 10, .mv (.t 44), none, 0, []⟩,
    ⟨some 11, .mv (.t 47), none, 0, []⟩,
    ⟨some 12, .mv (.t 48), none, 0, []⟩])
  (.ret))))))⟩

/-- burin/bitmap.mask -/
def bitmap_mask : AFun := ⟨3, 26, true, [.t 6],
  .seq (.reg false [0, 1, 2] [⟨some 6, .mv (.c (.int .u64 0)), none, 0, []⟩])
  (.seq (.reg false [7, 8] [⟨some 9, .mv (.t 1), none, 0, []⟩,
    ⟨some 10, .mv (.t 0), none, 0, []⟩,
    ⟨some 11, .bin .mul .num (.c (.int .i64 64)) (.t 10), none, 0, []⟩,
    ⟨some 12, .bin .sub .num (.t 9) (.t 11), none, 0, []⟩,
    ⟨some 13, .mm true [(.t 12), (.c (.int .i64 0))], none, 0, []⟩,
    ⟨some 14, .mv (.t 1), none, 0, []⟩,
    ⟨some 15, .mv (.t 2), none, 0, []⟩,
    ⟨some 16, .bin .add .num (.t 14) (.t 15), none, 0, []⟩,
    ⟨some 17, .mv (.t 0), none, 0, []⟩,
    ⟨some 18, .bin .mul .num (.c (.int .i64 64)) (.t 17), none, 0, []⟩,
    ⟨some 19, .bin .sub .num (.t 16) (.t 18), none, 0, []⟩,
    ⟨some 20, .mm false [(.t 19), (.c (.int .i64 64))], none, 0, []⟩,
    ⟨some 7, .mv (.t 13), none, 0, []⟩,
    ⟨some 8, .mv (.t 20), none, 0, []⟩])
  (.seq (.reg true [6] [⟨some 21, .mv (.t 7), none, 0, []⟩,
    ⟨some 22, .bin .shr .num (.c (.int .u64 18446744073709551615)) (.t 21), none, 1, []⟩,
    ⟨some 23, .mv (.t 8), none, 2, []⟩,
    ⟨some 24, .bin .shr .num (.c (.int .u64 18446744073709551615)) (.t 23), none, 3, []⟩,
    ⟨some 25, .bin .andNot .num (.t 22) (.t 24), none, 4, []⟩,
    ⟨some 6, .mv (.t 25), none, 5, []⟩])
  (.ret)))⟩

def bitmap_Map_Fill_l1 : Cd := .seq (.seq (.reg false [0, 1, 2, 5, 14, 15, 16, 17, 80] [⟨some 74, .mv (.t 17), none, 0, []⟩,
    ⟨some 75, .mv (.t 1), none, 0, []⟩,
    ⟨some 76, .mv (.t 14), none, 0, []⟩,
    ⟨some 77, .bin .add .num (.t 75) (.t 76), none, 0, []⟩,
    ⟨some 78, .bin .sub .num (.t 77) (.c (.int .i64 1)), none, 0, []⟩,
    ⟨some 79, .bin .quo .num (.t 78) (.c (.int .i64 64)), none, 0, []⟩,
    ⟨some 80, .bin .leq .num (.t 74) (.t 79), none, 0, []⟩])
  (.cond (.t 80) (.skip)
  (.exit 3)))
  (.seq (.block 4 (.seq (.reg true [0, 1, 2, 5, 14, 15, 16, 17] [⟨some 83, .mv (.t 0), none, 0, []⟩,
    ⟨some 84, .nilck (.t 83), none, 1, []⟩,
    ⟨some 85, .fad 3 (.t 84), none, 2, []⟩,
    ⟨some 86, .load none (.t 85), none, 3, []⟩,
    ⟨some 87, .mv (.t 16), none, 4, []⟩,
    ⟨some 88, .mv (.t 0), none, 5, []⟩,
    ⟨some 89, .nilck (.t 88), none, 6, []⟩,
    ⟨some 90, .fad 2 (.t 89), none, 7, []⟩,
    ⟨some 91, .load none (.t 90), none, 8, []⟩,
    ⟨some 92, .bin .mul .num (.t 87) (.t 91), none, 9, []⟩,
    ⟨some 93, .mv (.t 17), none, 10, []⟩,
    ⟨some 94, .bin .add .num (.t 92) (.t 93), none, 11, []⟩,
    ⟨some 95, .iad none 1 (.t 86) (.t 94), none, 12, []⟩,
    ⟨some 96, .load none (.t 95), none, 13, []⟩,
    ⟨some 97, .mv (.t 17), none, 14, []⟩,
    ⟨some 98, .mv (.t 1), none, 15, []⟩,
    ⟨some 99, .mv (.t 14), none, 16, []⟩,
    ⟨some 100, .call (.f 55) [(.t 97), (.t 98), (.t 99)], none, 17, [3, 8, 13]⟩,
    ⟨some 101, .bin .andNot .num (.t 96) (.t 100), none, 18, []⟩,
    ⟨some 102, .iad none 1 (.t 86) (.t 94), none, 19, []⟩,
    ⟨none, .store 1 (.t 102) (.t 101), none, 20, []⟩])
  (.seq (.reg false [0, 1, 2, 5, 14, 15, 16, 17, 104] [⟨some 103, .mv (.t 5), none, 0, []⟩,
    ⟨some 104, .bin .eql .num (.t 103) (.c (.int .i64 1)), none, 0, []⟩])
  (.cond (.t 104) (.reg true [0, 1, 2, 5, 14, 15, 16, 17] [⟨some 105, .mv (.t 0), none, 0, []⟩,
    ⟨some 106, .nilck (.t 105), none, 1, []⟩,
    ⟨some 107, .fad 3 (.t 106), none, 2, []⟩,
    ⟨some 108, .load none (.t 107), none, 3, []⟩,
    ⟨some 109, .mv (.t 16), none, 4, []⟩,
    ⟨some 110, .mv (.t 0), none, 5, []⟩,
    ⟨some 111, .nilck (.t 110), none, 6, []⟩,
    ⟨some 112, .fad 2 (.t 111), none, 7, []⟩,
    ⟨some 113, .load none (.t 112), none, 8, []⟩,
    ⟨some 114, .bin .mul .num (.t 109) (.t 113), none, 9, []⟩,
    ⟨some 115, .mv (.t 17), none, 10, []⟩,
    ⟨some 116, .bin .add .num (.t 114) (.t 115), none, 11, []⟩,
    ⟨some 117, .iad none 1 (.t 108) (.t 116), none, 12, []⟩,
    ⟨some 118, .load none (.t 117), none, 13, []⟩,
    ⟨some 119, .mv (.t 17), none, 14, []⟩,
    ⟨some 120, .mv (.t 1), none, 15, []⟩,
    ⟨some 121, .mv (.t 14), none, 16, []⟩,
    ⟨some 122, .call (.f 55) [(.t 119), (.t 120), (.t 121)], none, 17, [3, 8, 13]⟩,
    ⟨some 123, .bin .or .num (.t 118) (.t 122), none, 18, []⟩,
    ⟨some 124, .iad none 1 (.t 108) (.t 116), none, 19, []⟩,
    ⟨none, .store 1 (.t 124) (.t 123), none, 20, []⟩])
  (.skip)))))
  (.reg false [0, 1, 2, 5, 14, 15, 16, 17] [⟨some 81, .mv (.t 17), none, 0, []⟩,
    ⟨some 82, .bin .add .num (.t 81) (.c (.int .i64 1)), none, 0, []⟩,
    ⟨some 17, .mv (.t 82), none, 0, []⟩]))
def bitmap_Map_Fill_l0 : Cd := .seq (.seq (.reg false [0, 1, 2, 5, 14, 15, 16, 69] [⟨some 65, .mv (.t 16), none, 0, []⟩,
    ⟨some 66, .mv (.t 2), none, 0, []⟩,
    ⟨some 67, .mv (.t 15), none, 0, []⟩,
    ⟨some 68, .bin .add .num (.t 66) (.t 67), none, 0, []⟩,
    ⟨some 69, .bin .lss .num (.t 65) (.t 68), none, 0, []⟩])
  (.cond (.t 69) (.skip)
  (.exit 1)))
  (.seq (.block 2 (.seq (.reg false [0, 1, 2, 5, 14, 15, 16, 17] [⟨some 72, .mv (.t 1), none, 0, []⟩,
    ⟨some 73, .bin .quo .num (.t 72) (.c (.int .i64 64)), none, 0, []⟩,
    ⟨some 17, .mv (.t 73), none, 0, []⟩])
  (.block 3 (.loop [0, 1, 2, 5, 14, 15, 16, 17] bitmap_Map_Fill_l1))))
  (.reg false [0, 1, 2, 5, 14, 15, 16] [⟨some 70, .mv (.t 16), none, 0, []⟩,
    ⟨some 71, .bin .add .num (.t 70) (.c (.int .i64 1)), none, 0, []⟩,
    ⟨some 16, .mv (.t 71), none, 0, []⟩]))
/-- (*burin/bitmap.Map).Fill -/
def bitmap_Map_Fill : AFun := ⟨6, 125, true, [.t 12],
  .seq (.reg false [0, 1, 2, 3, 4, 5] [⟨some 12, .mv (.c (.int .i64 0)), none, 0, []⟩])
  (.seq (.block 0 (.seq (.reg false [0, 1, 2, 3, 4, 5, 18] [⟨some 19, .mv (.t 3), none, 0, []⟩,
    ⟨some 20, .bin .lss .num (.t 19) (.c (.int .i64 0)), none, 0, []⟩,
    ⟨some 21, .mv (.t 20), none, 0, []⟩,
    ⟨some 22, .mv (.t 4), some (21, false), 0, []⟩,
    ⟨some 23, .bin .lss .num (.t 22) (.c (.int .i64 0)), some (21, false), 0, []⟩,
    ⟨some 24, .pick (.t 21) (.c (.bool true)) (.t 23), none, 0, []⟩,
    ⟨some 18, .mv (.t 24), none, 0, []⟩])
  (.cond (.t 18) (.seq (.reg false [12] [⟨some 12, .mv (.c (.int .i64 24)), none, 0, []⟩])
  (.ret))
  (.seq (.reg false [0, 1, 2, 3, 4, 5, 25] [⟨some 26, .mv (.t 5), none, 0, []⟩,
    ⟨some 27, .bin .neq .num (.t 26) (.c (.int .i64 0)), none, 0, []⟩,
    ⟨some 28, .mv (.t 27), none, 0, []⟩,
    ⟨some 29, .mv (.t 5), some (28, true), 0, []⟩,
    ⟨some 30, .bin .neq .num (.t 29) (.c (.int .i64 1)), some (28, true), 0, []⟩,
    ⟨some 31, .pick (.t 28) (.t 30) (.c (.bool false)), none, 0, []⟩,
    ⟨some 25, .mv (.t 31), none, 0, []⟩])
  (.cond (.t 25) (.seq (.reg false [12] [⟨some 12, .mv (.c (.int .i64 23)), none, 0, []⟩])
  (.ret))
  (.skip))))))
  (.seq (.reg false [0, 1, 2, 4, 5, 13, 14] [⟨some 33, .mv (.t 1), none, 0, []⟩,
    ⟨some 34, .mv (.t 3), none, 0, []⟩,
    ⟨some 35, .mv (.t 0), none, 0, []⟩,
    ⟨some 36, .nilck (.t 35), none, 0, []⟩,
    ⟨some 37, .fad 0 (.t 36), none, 0, []⟩,
    ⟨some 38, .load none (.t 37), none, 0, []⟩,
    ⟨some 39, .call (.f 53) [(.t 33), (.t 34), (.t 38)], none, 0, []⟩,
    ⟨some 32, .mv (.t 39), none, 0, []⟩,
    ⟨some 40, .ext 0 (.t 32), none, 0, []⟩,
    ⟨some 41, .ext 1 (.t 32), none, 0, []⟩,
    ⟨some 13, .mv (.t 40), none, 0, []⟩,
    ⟨some 14, .mv (.t 41), none, 0, []⟩])
  (.seq (.reg false [0, 1, 2, 4, 5, 14] [⟨some 42, .mv (.t 1), none, 0, []⟩,
    ⟨some 43, .mv (.t 13), none, 0, []⟩,
    ⟨some 44, .bin .add .num (.t 42) (.t 43), none, 0, []⟩,
    ⟨some 1, .mv (.t 44), none, 0, []⟩])
  (.seq (.reg false [0, 1, 2, 5, 13, 14, 15] [⟨some 46, .mv (.t 2), none, 0, []⟩,
    ⟨some 47, .mv (.t 4), none, 0, []⟩,
    ⟨some 48, .mv (.t 0), none, 0, []⟩,
    ⟨some 49, .nilck (.t 48), none, 0, []⟩,
    ⟨some 50, .fad 1 (.t 49), none, 0, []⟩,
    ⟨some 51, .load none (.t 50), none, 0, []⟩,
    ⟨some 52, .call (.f 53) [(.t 46), (.t 47), (.t 51)], none, 0, []⟩,
    ⟨some 45, .mv (.t 52), none, 0, []⟩,
    ⟨some 53, .ext 0 (.t 45), none, 0, []⟩,
    ⟨some 54, .ext 1 (.t 45), none, 0, []⟩,
    ⟨some 13, .mv (.t 53), none, 0, []⟩,
    ⟨some 15, .mv (.t 54), none, 0, []⟩])
  (.seq (.reg false [0, 1, 2, 5, 14, 15] [⟨some 55, .mv (.t 2), none, 0, []⟩,
    ⟨some 56, .mv (.t 13), none, 0, []⟩,
    ⟨some 57, .bin .add .num (.t 55) (.t 56), none, 0, []⟩,
    ⟨some 2, .mv (.t 57), none, 0, []⟩])
  (.seq (.seq (.reg false [0, 1, 2, 5, 14, 15, 63] [⟨some 58, .mv (.t 14), none, 0, []⟩,
    ⟨some 59, .bin .eql .num (.t 58) (.c (.int .i64 0)), none, 0, []⟩,
    ⟨some 60, .mv (.t 59), none, 0, []⟩,
    ⟨some 61, .mv (.t 15), some (60, false), 0, []⟩,
    ⟨some 62, .bin .eql .num (.t 61) (.c (.int .i64 0)), some (60, false), 0, []⟩,
    ⟨some 63, .pick (.t 60) (.c (.bool true)) (.t 62), none, 0, []⟩])
  (.cond (.t 63) (.seq (.reg false [12] [⟨some 12, .mv (.c (.int .i64 0)), none, 0, []⟩])
  (.ret))
  (.skip)))
  (.seq (.seq (.reg false [0, 1, 2, 5, 14, 15, 16] [⟨some 64, .mv (.t 2), none, 0, []⟩,
    ⟨some 16, .mv (.t 64), none, 0, []⟩])
  (.block 1 (.loop [0, 1, 2, 5, 14, 15, 16] bitmap_Map_Fill_l0)))
  (.seq (.reg false [12] [⟨some 12, .mv (.c (.int .i64 0)), none, 0, []⟩])
  (.ret)))))))))⟩

/-- burin/bitmap.operations -/
def bitmap_operations : AFun := ⟨0, 2, true, [.t 0],
  .seq (.reg false [] [⟨some 0, .mv (.c (.sl none 0 0 0)), none, 0, []⟩])
  (.seq (.reg false [0] [⟨some 1, .bslice 1 [.nilfn] 5 [(0, (.f 57)), (1, (.f 58)), (2, (.f 59)), (3, (.f 60)), (4, (.f 61))], none, 0, []⟩,
    ⟨some 0, .mv (.t 1), none, 0, []⟩])
  (.ret))⟩

/-- burin/bitmap.operations$1 -/
def bitmap_operations_1 : AFun := ⟨2, 8, true, [.t 4],
  .seq (.reg false [0, 1] [⟨some 4, .mv (.c (.int .u64 0)), none, 0, []⟩])
  (.seq (.reg false [4] [⟨some 5, .mv (.t 0), none, 0, []⟩,
    ⟨some 6, .mv (.t 1), none, 0, []⟩,
    ⟨some 7, .bin .or .num (.t 5) (.t 6), none, 0, []⟩,
    ⟨some 4, .mv (.t 7), none, 0, []⟩])
  (.ret))⟩

/-- burin/bitmap.operations$2 -/
def bitmap_operations_2 : AFun := ⟨2, 8, true, [.t 4],
  .seq (.reg false [0, 1] [⟨some 4, .mv (.c (.int .u64 0)), none, 0, []⟩])
  (.seq (.reg false [4] [⟨some 5, .mv (.t 0), none, 0, []⟩,
    ⟨some 6, .mv (.t 1), none, 0, []⟩,
    ⟨some 7, .bin .and .num (.t 5) (.t 6), none, 0, []⟩,
    ⟨some 4, .mv (.t 7), none, 0, []⟩])
  (.ret))⟩

/-- burin/bitmap.operations$3 -/
def bitmap_operations_3 : AFun := ⟨2, 8, true, [.t 4],
  .seq (.reg false [0, 1] [⟨some 4, .mv (.c (.int .u64 0)), none, 0, []⟩])
  (.seq (.reg false [4] [⟨some 5, .mv (.t 0), none, 0, []⟩,
    ⟨some 6, .mv (.t 1), none, 0, []⟩,
    ⟨some 7, .bin .xor .num (.t 5) (.t 6), none, 0, []⟩,
    ⟨some 4, .mv (.t 7), none, 0, []⟩])
  (.ret))⟩

/-- burin/bitmap.operations$4 -/
def bitmap_operations_4 : AFun := ⟨2, 9, true, [.t 4],
  .seq (.reg false [0, 1] [⟨some 4, .mv (.c (.int .u64 0)), none, 0, []⟩])
  (.seq (.reg false [4] [⟨some 5, .mv (.t 0), none, 0, []⟩,
    ⟨some 6, .mv (.t 1), none, 0, []⟩,
    ⟨some 7, .bin .xor .num (.t 5) (.t 6), none, 0, []⟩,
    ⟨some 8, .un .xor (.t 7), none, 0, []⟩,
    ⟨some 4, .mv (.t 8), none, 0, []⟩])
  (.ret))⟩

/-- burin/bitmap.operations$5 -/
def bitmap_operations_5 : AFun := ⟨2, 6, true, [.t 4],
  .seq (.reg false [1] [⟨some 4, .mv (.c (.int .u64 0)), none, 0, []⟩])
  (.seq (.reg false [4] [⟨some 5, .mv (.t 1), none, 0, []⟩,
    ⟨some 4, .mv (.t 5), none, 0, []⟩])
  (.ret))⟩

/-- burin/bitmap.word -/
def bitmap_word : AFun := ⟨2, 49, true, [.t 4],
  .seq (.reg false [0, 1] [⟨some 4, .mv (.c (.int .u64 0)), none, 0, []⟩])
  (.seq (.seq (.reg false [0, 1, 8] [⟨some 7, .mv (.t 1), none, 0, []⟩,
    ⟨some 8, .bin .lss .num (.t 7) (.c (.int .i64 0)), none, 0, []⟩])
  (.cond (.t 8) (.seq (.reg false [4] [⟨some 9, .mv (.t 0), none, 0, []⟩,
    ⟨some 10, .call (.f 63) [(.t 9), (.c (.int .i64 0))], none, 0, []⟩,
    ⟨some 11, .mv (.t 1), none, 0, []⟩,
    ⟨some 12, .un .neg (.t 11), none, 0, []⟩,
    ⟨some 13, .bin .shr .num (.t 10) (.t 12), none, 0, []⟩,
    ⟨some 4, .mv (.t 13), none, 0, []⟩])
  (.ret))
  (.skip)))
  (.seq (.reg false [0, 1, 5] [⟨some 14, .mv (.t 1), none, 0, []⟩,
    ⟨some 15, .bin .quo .num (.t 14) (.c (.int .i64 64)), none, 0, []⟩,
    ⟨some 5, .mv (.t 15), none, 0, []⟩])
  (.seq (.seq (.reg false [0, 1, 5, 19] [⟨some 16, .mv (.t 5), none, 0, []⟩,
    ⟨some 17, .mv (.t 0), none, 0, []⟩,
    ⟨some 18, .len none (.t 17), none, 0, []⟩,
    ⟨some 19, .bin .geq .num (.t 16) (.t 18), none, 0, []⟩])
  (.cond (.t 19) (.seq (.reg false [4] [⟨some 4, .mv (.c (.int .u64 0)), none, 0, []⟩])
  (.ret))
  (.skip)))
  (.seq (.reg false [0, 1, 5, 6] [⟨some 20, .mv (.t 0), none, 0, []⟩,
    ⟨some 21, .mv (.t 5), none, 0, []⟩,
    ⟨some 22, .iad none 1 (.t 20) (.t 21), none, 0, []⟩,
    ⟨some 23, .load none (.t 22), none, 0, []⟩,
    ⟨some 24, .mv (.t 1), none, 0, []⟩,
    ⟨some 25, .bin .rem .num (.t 24) (.c (.int .i64 64)), none, 0, []⟩,
    ⟨some 26, .bin .shl .num (.t 23) (.t 25), none, 0, []⟩,
    ⟨some 6, .mv (.t 26), none, 0, []⟩])
  (.seq (.seq (.reg false [0, 1, 5, 6, 36] [⟨some 27, .mv (.t 1), none, 0, []⟩,
    ⟨some 28, .bin .rem .num (.t 27) (.c (.int .i64 64)), none, 0, []⟩,
    ⟨some 29, .bin .gtr .num (.t 28) (.c (.int .i64 0)), none, 0, []⟩,
    ⟨some 30, .mv (.t 29), none, 0, []⟩,
    ⟨some 31, .mv (.t 5), some (30, true), 0, []⟩,
    ⟨some 32, .bin .add .num (.t 31) (.c (.int .i64 1)), some (30, true), 0, []⟩,
    ⟨some 33, .mv (.t 0), some (30, true), 0, []⟩,
    ⟨some 34, .len none (.t 33), some (30, true), 0, []⟩,
    ⟨some 35, .bin .lss .num (.t 32) (.t 34), some (30, true), 0, []⟩,
    ⟨some 36, .pick (.t 30) (.t 35) (.c (.bool false)), none, 0, []⟩])
  (.cond (.t 36) (.reg false [6] [⟨some 37, .mv (.t 6), none, 0, []⟩,
    ⟨some 38, .mv (.t 0), none, 0, []⟩,
    ⟨some 39, .mv (.t 5), none, 0, []⟩,
    ⟨some 40, .bin .add .num (.t 39) (.c (.int .i64 1)), none, 0, []⟩,
    ⟨some 41, .iad none 1 (.t 38) (.t 40), none, 0, []⟩,
    ⟨some 42, .load none (.t 41), none, 0, []⟩,
    ⟨some 43, .mv (.t 1), none, 0, []⟩,
    ⟨some 44, .bin .rem .num (.t 43) (.c (.int .i64 64)), none, 0, []⟩,
    ⟨some 45, .bin .sub .num (.c (.int .i64 64)) (.t 44), none, 0, []⟩,
    ⟨some 46, .bin .shr .num (.t 42) (.t 45), none, 0, []⟩,
    ⟨some 47, .bin .or .num (.t 37) (.t 46), none, 0, []⟩,
    ⟨some 6, .mv (.t 47), none, 0, []⟩])
  (.skip)))
  (.seq (.reg false [4] [⟨some 48, .mv (.t 6), none, 0, []⟩,
    ⟨some 4, .mv (.t 48), none, 0, []⟩])
  (.ret)))))))⟩

def bitmap_Map_Blit_l1 : Cd := .seq (.seq (.reg false [0, 1, 2, 3, 4, 5, 6, 7, 19, 20, 21, 23, 90, 91, 137] [⟨some 131, .mv (.t 23), none, 0, []⟩,
    ⟨some 132, .mv (.t 6), none, 0, []⟩,
    ⟨some 133, .mv (.t 4), none, 0, []⟩,
    ⟨some 134, .bin .add .num (.t 132) (.t 133), none, 0, []⟩,
    ⟨some 135, .bin .sub .num (.t 134) (.c (.int .i64 1)), none, 0, []⟩,
    ⟨some 136, .bin .quo .num (.t 135) (.c (.int .i64 64)), none, 0, []⟩,
    ⟨some 137, .bin .leq .num (.t 131) (.t 136), none, 0, []⟩])
  (.cond (.t 137) (.skip)
  (.exit 3)))
  (.seq (.block 4 (.seq (.reg true [0, 1, 2, 3, 4, 5, 6, 7, 19, 20, 21, 23, 24, 90, 91] [⟨some 140, .mv (.t 0), none, 0, []⟩,
    ⟨some 141, .nilck (.t 140), none, 1, []⟩,
    ⟨some 142, .fad 3 (.t 141), none, 2, []⟩,
    ⟨some 143, .load none (.t 142), none, 3, []⟩,
    ⟨some 144, .mv (.t 7), none, 4, []⟩,
    ⟨some 145, .mv (.t 21), none, 5, []⟩,
    ⟨some 146, .bin .add .num (.t 144) (.t 145), none, 6, []⟩,
    ⟨some 147, .mv (.t 0), none, 7, []⟩,
    ⟨some 148, .nilck (.t 147), none, 8, []⟩,
    ⟨some 149, .fad 2 (.t 148), none, 9, []⟩,
    ⟨some 150, .load none (.t 149), none, 10, []⟩,
    ⟨some 151, .bin .mul .num (.t 146) (.t 150), none, 11, []⟩,
    ⟨some 152, .mv (.t 23), none, 12, []⟩,
    ⟨some 153, .bin .add .num (.t 151) (.t 152), none, 13, []⟩,
    ⟨some 154, .iad none 1 (.t 143) (.t 153), none, 14, []⟩,
    ⟨some 24, .mv (.t 154), none, 15, []⟩])
  (.seq (.reg false [0, 1, 2, 3, 4, 5, 6, 7, 19, 20, 21, 23, 24, 25, 90, 91] [⟨some 155, .mv (.t 23), none, 0, []⟩,
    ⟨some 156, .mv (.t 6), none, 0, []⟩,
    ⟨some 157, .mv (.t 4), none, 0, []⟩,
    ⟨some 158, .call (.f 55) [(.t 155), (.t 156), (.t 157)], none, 0, []⟩,
    ⟨some 25, .mv (.t 158), none, 0, []⟩])
  (.reg true [0, 1, 2, 3, 4, 5, 6, 7, 19, 20, 21, 23, 90, 91] [⟨some 159, .mv (.t 24), none, 0, []⟩,
    ⟨some 160, .mv (.t 24), none, 1, []⟩,
    ⟨some 161, .nilck (.t 160), none, 2, []⟩,
    ⟨some 162, .load none (.t 161), none, 3, []⟩,
    ⟨some 163, .mv (.t 25), none, 4, []⟩,
    ⟨some 164, .bin .andNot .num (.t 162) (.t 163), none, 5, []⟩,
    ⟨some 165, .mv (.t 19), none, 6, []⟩,
    ⟨some 166, .mv (.t 24), none, 7, []⟩,
    ⟨some 167, .nilck (.t 166), none, 8, []⟩,
    ⟨some 168, .load none (.t 167), none, 9, []⟩,
    ⟨some 169, .mv (.t 20), none, 10, []⟩,
    ⟨some 170, .mv (.t 2), none, 11, []⟩,
    ⟨some 171, .mv (.t 23), none, 12, []⟩,
    ⟨some 172, .bin .mul .num (.c (.int .i64 64)) (.t 171), none, 13, []⟩,
    ⟨some 173, .bin .add .num (.t 170) (.t 172), none, 14, []⟩,
    ⟨some 174, .mv (.t 6), none, 15, []⟩,
    ⟨some 175, .bin .sub .num (.t 173) (.t 174), none, 16, []⟩,
    ⟨some 178, .mv (.t 25), none, 19, []⟩,
    ⟨some 176, .call (.f 63) [(.t 169), (.t 175)], none, 17, [3, 9]⟩,
    ⟨some 177, .call (.t 165) [(.t 168), (.t 176)], none, 18, [3]⟩,
    ⟨some 179, .bin .and .num (.t 177) (.t 178), none, 20, []⟩,
    ⟨some 180, .bin .or .num (.t 164) (.t 179), none, 21, []⟩,
    ⟨some 181, .nilck (.t 159), none, 22, []⟩,
    ⟨none, .store 1 (.t 181) (.t 180), none, 23, []⟩]))))
  (.reg false [0, 1, 2, 3, 4, 5, 6, 7, 19, 20, 21, 23, 90, 91] [⟨some 138, .mv (.t 23), none, 0, []⟩,
    ⟨some 139, .bin .add .num (.t 138) (.c (.int .i64 1)), none, 0, []⟩,
    ⟨some 23, .mv (.t 139), none, 0, []⟩]))
def bitmap_Map_Blit_l0 : Cd := .seq (.reg false [0, 1, 2, 3, 4, 5, 6, 7, 19, 20, 90, 91, 92] [⟨some 92, .bin .lss .num (.t 91) (.t 90), none, 0, []⟩])
  (.seq (.cond (.t 92) (.skip)
  (.exit 1))
  (.seq (.block 2 (.seq (.reg false [0, 1, 2, 3, 4, 5, 6, 7, 19, 20, 21, 90, 91] [⟨some 93, .mv (.t 91), none, 0, []⟩,
    ⟨some 21, .mv (.t 93), none, 0, []⟩])
  (.seq (.seq (.reg false [0, 1, 2, 3, 4, 5, 6, 7, 19, 20, 21, 90, 91, 96] [⟨some 94, .mv (.t 7), none, 0, []⟩,
    ⟨some 95, .mv (.t 3), none, 0, []⟩,
    ⟨some 96, .bin .gtr .num (.t 94) (.t 95), none, 0, []⟩])
  (.cond (.t 96) (.reg false [0, 1, 2, 3, 4, 5, 6, 7, 19, 20, 21, 90, 91] [⟨some 97, .mv (.t 5), none, 0, []⟩,
    ⟨some 98, .bin .sub .num (.t 97) (.c (.int .i64 1)), none, 0, []⟩,
    ⟨some 99, .mv (.t 21), none, 0, []⟩,
    ⟨some 100, .bin .sub .num (.t 98) (.t 99), none, 0, []⟩,
    ⟨some 21, .mv (.t 100), none, 0, []⟩])
  (.skip)))
  (.seq (.reg false [0, 1, 2, 3, 4, 5, 6, 7, 19, 20, 21, 22, 90, 91] [⟨some 101, .mv (.t 3), none, 0, []⟩,
    ⟨some 102, .mv (.t 21), none, 0, []⟩,
    ⟨some 103, .bin .add .num (.t 101) (.t 102), none, 0, []⟩,
    ⟨some 104, .mv (.t 1), none, 0, []⟩,
    ⟨some 105, .nilck (.t 104), none, 0, []⟩,
    ⟨some 106, .fad 2 (.t 105), none, 0, []⟩,
    ⟨some 107, .load none (.t 106), none, 0, []⟩,
    ⟨some 108, .bin .mul .num (.t 103) (.t 107), none, 0, []⟩,
    ⟨some 22, .mv (.t 108), none, 0, []⟩])
  (.seq (.reg true [0, 1, 2, 3, 4, 5, 6, 7, 19, 20, 21, 90, 91] [⟨some 109, .mv (.t 20), none, 0, []⟩,
    ⟨some 110, .mv (.t 1), none, 1, []⟩,
    ⟨some 111, .nilck (.t 110), none, 2, []⟩,
    ⟨some 112, .fad 3 (.t 111), none, 3, []⟩,
    ⟨some 113, .load none (.t 112), none, 4, []⟩,
    ⟨some 114, .mv (.t 22), none, 5, []⟩,
    ⟨some 115, .mv (.t 22), none, 6, []⟩,
    ⟨some 116, .mv (.t 1), none, 7, []⟩,
    ⟨some 117, .nilck (.t 116), none, 8, []⟩,
    ⟨some 118, .fad 2 (.t 117), none, 9, []⟩,
    ⟨some 119, .load none (.t 118), none, 10, []⟩,
    ⟨some 120, .bin .add .num (.t 115) (.t 119), none, 11, []⟩,
    ⟨some 121, .mv (.t 22), none, 12, []⟩,
    ⟨some 122, .mv (.t 1), none, 13, []⟩,
    ⟨some 123, .nilck (.t 122), none, 14, []⟩,
    ⟨some 124, .fad 2 (.t 123), none, 15, []⟩,
    ⟨some 125, .load none (.t 124), none, 16, []⟩,
    ⟨some 126, .bin .add .num (.t 121) (.t 125), none, 17, []⟩,
    ⟨some 127, .slice 1 (.t 113) (some (.t 114)) (some (.t 120)) (some (.t 126)), none, 18, []⟩,
    ⟨some 128, .copy 1 (.t 109) (.t 127), none, 19, []⟩])
  (.seq (.reg false [0, 1, 2, 3, 4, 5, 6, 7, 19, 20, 21, 23, 90, 91] [⟨some 129, .mv (.t 6), none, 0, []⟩,
    ⟨some 130, .bin .quo .num (.t 129) (.c (.int .i64 64)), none, 0, []⟩,
    ⟨some 23, .mv (.t 130), none, 0, []⟩])
  (.block 3 (.loop [0, 1, 2, 3, 4, 5, 6, 7, 19, 20, 21, 23, 90, 91] bitmap_Map_Blit_l1))))))))
  (.reg false [0, 1, 2, 3, 4, 5, 6, 7, 19, 20, 90, 91] [⟨some 182, .bin .add .num (.t 91) (.c (.int .i64 1)), none, 0, []⟩,
    ⟨some 91, .mv (.t 182), none, 0, []⟩])))
/-- (*burin/bitmap.Map).Blit -/
def bitmap_Map_Blit : AFun := ⟨9, 183, true, [.t 18],
  .seq (.reg false [0, 1, 2, 3, 4, 5, 6, 7, 8] [⟨some 18, .mv (.c (.int .i64 0)), none, 0, []⟩])
  (.seq (.block 0 (.seq (.reg false [0, 1, 2, 3, 4, 5, 6, 7, 8, 26] [⟨some 27, .mv (.t 1), none, 0, []⟩,
    ⟨some 28, .bin .eql .ptr (.t 27) (.c (.ptr none)), none, 0, []⟩,
    ⟨some 26, .mv (.t 28), none, 0, []⟩])
  (.cond (.t 26) (.seq (.reg false [18] [⟨some 18, .mv (.c (.int .i64 26)), none, 0, []⟩])
  (.ret))
  (.seq (.reg false [0, 1, 2, 3, 4, 5, 6, 7, 8, 29] [⟨some 30, .mv (.t 4), none, 0, []⟩,
    ⟨some 31, .bin .lss .num (.t 30) (.c (.int .i64 0)), none, 0, []⟩,
    ⟨some 32, .mv (.t 31), none, 0, []⟩,
    ⟨some 33, .mv (.t 5), some (32, false), 0, []⟩,
    ⟨some 34, .bin .lss .num (.t 33) (.c (.int .i64 0)), some (32, false), 0, []⟩,
    ⟨some 35, .pick (.t 32) (.c (.bool true)) (.t 34), none, 0, []⟩,
    ⟨some 29, .mv (.t 35), none, 0, []⟩])
  (.cond (.t 29) (.seq (.reg false [18] [⟨some 18, .mv (.c (.int .i64 24)), none, 0, []⟩])
  (.ret))
  (.seq (.reg false [0, 1, 2, 3, 4, 5, 6, 7, 8, 36] [⟨some 37, .mv (.t 8), none, 0, []⟩,
    ⟨some 38, .bin .lss .num (.t 37) (.c (.int .i64 0)), none, 0, []⟩,
    ⟨some 39, .mv (.t 38), none, 0, []⟩,
    ⟨some 40, .mv (.t 8), some (39, false), 0, []⟩,
    ⟨some 41, .bin .gtr .num (.t 40) (.c (.int .i64 4)), some (39, false), 0, []⟩,
    ⟨some 42, .pick (.t 39) (.c (.bool true)) (.t 41), none, 0, []⟩,
    ⟨some 36, .mv (.t 42), none, 0, []⟩])
  (.cond (.t 36) (.seq (.reg false [18] [⟨some 18, .mv (.c (.int .i64 25)), none, 0, []⟩])
  (.ret))
  (.skip))))))))
  (.seq (.reg true [0, 1, 2, 3, 4, 5, 6, 7, 8] [⟨some 44, .mv (.t 2), none, 0, []⟩,
    ⟨some 45, .mv (.t 1), none, 1, []⟩,
    ⟨some 46, .nilck (.t 45), none, 2, []⟩,
    ⟨some 47, .fad 0 (.t 46), none, 3, []⟩,
    ⟨some 48, .load none (.t 47), none, 4, []⟩,
    ⟨some 49, .mv (.t 6), none, 5, []⟩,
    ⟨some 50, .mv (.t 0), none, 6, []⟩,
    ⟨some 51, .nilck (.t 50), none, 7, []⟩,
    ⟨some 52, .fad 0 (.t 51), none, 8, []⟩,
    ⟨some 53, .load none (.t 52), none, 9, []⟩,
    ⟨some 54, .mv (.t 4), none, 10, []⟩,
    ⟨some 55, .call (.f 54) [(.t 44), (.t 48), (.t 49), (.t 53), (.t 54)], none, 11, []⟩,
    ⟨some 43, .mv (.t 55), none, 12, []⟩,
    ⟨some 56, .ext 0 (.t 43), none, 13, []⟩,
    ⟨some 57, .ext 1 (.t 43), none, 14, []⟩,
    ⟨some 58, .ext 2 (.t 43), none, 15, []⟩,
    ⟨some 2, .mv (.t 56), none, 16, []⟩,
    ⟨some 6, .mv (.t 57), none, 17, []⟩,
    ⟨some 4, .mv (.t 58), none, 18, []⟩])
  (.seq (.reg true [0, 1, 2, 3, 4, 5, 6, 7, 8] [⟨some 60, .mv (.t 3), none, 0, []⟩,
    ⟨some 61, .mv (.t 1), none, 1, []⟩,
    ⟨some 62, .nilck (.t 61), none, 2, []⟩,
    ⟨some 63, .fad 1 (.t 62), none, 3, []⟩,
    ⟨some 64, .load none (.t 63), none, 4, []⟩,
    ⟨some 65, .mv (.t 7), none, 5, []⟩,
    ⟨some 66, .mv (.t 0), none, 6, []⟩,
    ⟨some 67, .nilck (.t 66), none, 7, []⟩,
    ⟨some 68, .fad 1 (.t 67), none, 8, []⟩,
    ⟨some 69, .load none (.t 68), none, 9, []⟩,
    ⟨some 70, .mv (.t 5), none, 10, []⟩,
    ⟨some 71, .call (.f 54) [(.t 60), (.t 64), (.t 65), (.t 69), (.t 70)], none, 11, []⟩,
    ⟨some 59, .mv (.t 71), none, 12, []⟩,
    ⟨some 72, .ext 0 (.t 59), none, 13, []⟩,
    ⟨some 73, .ext 1 (.t 59), none, 14, []⟩,
    ⟨some 74, .ext 2 (.t 59), none, 15, []⟩,
    ⟨some 3, .mv (.t 72), none, 16, []⟩,
    ⟨some 7, .mv (.t 73), none, 17, []⟩,
    ⟨some 5, .mv (.t 74), none, 18, []⟩])
  (.seq (.seq (.reg false [0, 1, 2, 3, 4, 5, 6, 7, 8, 80] [⟨some 75, .mv (.t 4), none, 0, []⟩,
    ⟨some 76, .bin .eql .num (.t 75) (.c (.int .i64 0)), none, 0, []⟩,
    ⟨some 77, .mv (.t 76), none, 0, []⟩,
    ⟨some 78, .mv (.t 5), some (77, false), 0, []⟩,
    ⟨some 79, .bin .eql .num (.t 78) (.c (.int .i64 0)), some (77, false), 0, []⟩,
    ⟨some 80, .pick (.t 77) (.c (.bool true)) (.t 79), none, 0, []⟩])
  (.cond (.t 80) (.seq (.reg false [18] [⟨some 18, .mv (.c (.int .i64 0)), none, 0, []⟩])
  (.ret))
  (.skip)))
  (.seq (.reg false [0, 1, 2, 3, 4, 5, 6, 7, 19] [⟨some 81, .call (.f 62) [], none, 0, []⟩,
    ⟨some 82, .mv (.t 8), none, 0, []⟩,
    ⟨some 83, .iad none 1 (.t 81) (.t 82), none, 0, []⟩,
    ⟨some 84, .load none (.t 83), none, 0, []⟩,
    ⟨some 19, .mv (.t 84), none, 0, []⟩])
  (.seq (.reg false [0, 1, 2, 3, 4, 5, 6, 7, 19, 20] [⟨some 85, .mv (.t 1), none, 0, []⟩,
    ⟨some 86, .nilck (.t 85), none, 0, []⟩,
    ⟨some 87, .fad 2 (.t 86), none, 0, []⟩,
    ⟨some 88, .load none (.t 87), none, 0, []⟩,
    ⟨some 89, .mkslice 1 8 [.int .u64 0] (.t 88) (.t 88), none, 0, []⟩,
    ⟨some 20, .mv (.t 89), none, 0, []⟩])
  (.seq (.seq (.reg false [0, 1, 2, 3, 4, 5, 6, 7, 19, 20, 90, 91] [⟨some 90, .mv (.t 5), none, 0, []⟩,
    ⟨some 91, .mv (.c (.int .i64 0)), none, 0, []⟩])
  (.block 1 (.loop [0, 1, 2, 3, 4, 5, 6, 7, 19, 20, 90, 91] bitmap_Map_Blit_l0)))
  (.seq (.reg false [18] [⟨some 18, .mv (.c (.int .i64 0)), none, 0, []⟩])
  (.ret)))))))))⟩

/-- (*burin/bitmap.Map).Crop -/
def bitmap_Map_Crop : AFun := ⟨5, 31, true, [.t 10, .t 11],
  .seq (.reg false [0, 1, 2, 3, 4] [⟨some 10, .mv (.c (.ptr none)), none, 0, []⟩,
    ⟨some 11, .mv (.c (.int .i64 0)), none, 0, []⟩])
  (.seq (.reg false [0, 1, 2, 3, 4, 12, 13] [⟨some 15, .mv (.t 3), none, 0, []⟩,
    ⟨some 16, .mv (.t 4), none, 0, []⟩,
    ⟨some 17, .call (.f 42) [(.t 15), (.t 16)], none, 0, []⟩,
    ⟨some 14, .mv (.t 17), none, 0, []⟩,
    ⟨some 18, .ext 0 (.t 14), none, 0, []⟩,
    ⟨some 19, .ext 1 (.t 14), none, 0, []⟩,
    ⟨some 12, .mv (.t 18), none, 0, []⟩,
    ⟨some 13, .mv (.t 19), none, 0, []⟩])
  (.seq (.seq (.reg false [0, 1, 2, 3, 4, 12, 13, 21] [⟨some 20, .mv (.t 13), none, 0, []⟩,
    ⟨some 21, .bin .neq .num (.t 20) (.c (.int .i64 0)), none, 0, []⟩])
  (.cond (.t 21) (.seq (.reg false [10, 11] [⟨some 22, .mv (.t 13), none, 0, []⟩,
    ⟨some 10, .mv (.c (.ptr none)), none, 0, []⟩,
    ⟨some 11, .mv (.t 22), none, 0, []⟩])
  (.ret))
  (.skip)))
  (.seq (.reg false [10, 11] [⟨some 23, .mv (.t 12), none, 0, []⟩,
    ⟨some 24, .mv (.t 12), none, 0, []⟩,
    ⟨some 25, .mv (.t 0), none, 0, []⟩,
    ⟨some 26, .mv (.t 1), none, 0, []⟩,
    ⟨some 27, .mv (.t 2), none, 0, []⟩,
    ⟨some 28, .mv (.t 3), none, 0, []⟩,
    ⟨some 29, .mv (.t 4), none, 0, []⟩,
    ⟨some 30, .call (.f 64) [(.t 24), (.t 25), (.t 26), (.t 27), (.t 28), (.t 29), (.c (.int .i64 0)), (.c (.int .i64 0)), (.c (.int .i64 4))], none, 0, []⟩,
    ⟨some 10, .mv (.t 23), none, 0, []⟩,
    ⟨some 11, .mv (.t 30), none, 0, []⟩])
  (.ret))))⟩

def bitmap_Map_Invert_l0 : Cd := .seq (.reg false [0, 7, 8, 9] [⟨some 9, .bin .lss .num (.t 8) (.t 7), none, 0, []⟩])
  (.seq (.cond (.t 9) (.skip)
  (.exit 0))
  (.seq (.block 1 (.seq (.reg false [0, 2, 7, 8] [⟨some 10, .mv (.t 8), none, 0, []⟩,
    ⟨some 2, .mv (.t 10), none, 0, []⟩])
  (.seq (.reg true [0, 2, 7, 8] [⟨some 11, .mv (.t 0), none, 0, []⟩,
    ⟨some 12, .nilck (.t 11), none, 1, []⟩,
    ⟨some 13, .fad 3 (.t 12), none, 2, []⟩,
    ⟨some 14, .load none (.t 13), none, 3, []⟩,
    ⟨some 15, .mv (.t 2), none, 4, []⟩,
    ⟨some 16, .mv (.t 0), none, 5, []⟩,
    ⟨some 17, .nilck (.t 16), none, 6, []⟩,
    ⟨some 18, .fad 3 (.t 17), none, 7, []⟩,
    ⟨some 19, .load none (.t 18), none, 8, []⟩,
    ⟨some 20, .mv (.t 2), none, 9, []⟩,
    ⟨some 21, .iad none 1 (.t 19) (.t 20), none, 10, []⟩,
    ⟨some 22, .load none (.t 21), none, 11, []⟩,
    ⟨some 23, .un .xor (.t 22), none, 12, []⟩,
    ⟨some 24, .iad none 1 (.t 14) (.t 15), none, 13, []⟩,
    ⟨none, .store 1 (.t 24) (.t 23), none, 14, []⟩])
  (.seq (.reg true [0, 2, 7, 8, 36] [⟨some 25, .mv (.t 2), none, 0, []⟩,
    ⟨some 26, .mv (.t 0), none, 1, []⟩,
    ⟨some 27, .nilck (.t 26), none, 2, []⟩,
    ⟨some 28, .fad 2 (.t 27), none, 3, []⟩,
    ⟨some 29, .load none (.t 28), none, 4, []⟩,
    ⟨some 30, .bin .rem .num (.t 25) (.t 29), none, 5, []⟩,
    ⟨some 31, .mv (.t 0), none, 6, []⟩,
    ⟨some 32, .nilck (.t 31), none, 7, []⟩,
    ⟨some 33, .fad 2 (.t 32), none, 8, []⟩,
    ⟨some 34, .load none (.t 33), none, 9, []⟩,
    ⟨some 35, .bin .sub .num (.t 34) (.c (.int .i64 1)), none, 10, []⟩,
    ⟨some 36, .bin .eql .num (.t 30) (.t 35), none, 11, []⟩])
  (.cond (.t 36) (.reg true [0, 7, 8] [⟨some 37, .mv (.t 0), none, 0, []⟩,
    ⟨some 38, .nilck (.t 37), none, 1, []⟩,
    ⟨some 39, .fad 3 (.t 38), none, 2, []⟩,
    ⟨some 40, .load none (.t 39), none, 3, []⟩,
    ⟨some 41, .mv (.t 2), none, 4, []⟩,
    ⟨some 42, .iad none 1 (.t 40) (.t 41), none, 5, []⟩,
    ⟨some 43, .load none (.t 42), none, 6, []⟩,
    ⟨some 44, .mv (.t 0), none, 7, []⟩,
    ⟨some 45, .nilck (.t 44), none, 8, []⟩,
    ⟨some 46, .fad 0 (.t 45), none, 9, []⟩,
    ⟨some 47, .load none (.t 46), none, 10, []⟩,
    ⟨some 48, .call (.f 40) [(.t 47)], none, 11, [3, 6]⟩,
    ⟨some 49, .bin .and .num (.t 43) (.t 48), none, 12, []⟩,
    ⟨some 50, .iad none 1 (.t 40) (.t 41), none, 13, []⟩,
    ⟨none, .store 1 (.t 50) (.t 49), none, 14, []⟩])
  (.skip))))))
  (.reg false [0, 7, 8] [⟨some 51, .bin .add .num (.t 8) (.c (.int .i64 1)), none, 0, []⟩,
    ⟨some 8, .mv (.t 51), none, 0, []⟩])))
/-- (*burin/bitmap.Map).Invert -/
def bitmap_Map_Invert : AFun := ⟨1, 52, true, [],
  .seq (.reg false [0, 7, 8] [⟨some 3, .mv (.t 0), none, 0, []⟩,
    ⟨some 4, .nilck (.t 3), none, 0, []⟩,
    ⟨some 5, .fad 3 (.t 4), none, 0, []⟩,
    ⟨some 6, .load none (.t 5), none, 0, []⟩,
    ⟨some 7, .len none (.t 6), none, 0, []⟩,
    ⟨some 8, .mv (.c (.int .i64 0)), none, 0, []⟩])
  (.block 0 (.loop [0, 7, 8] bitmap_Map_Invert_l0))⟩

def bitmap_Map_turned_l1 : Cd := .seq (.reg false [0, 1, 3, 9, 10, 25, 26, 29, 30, 31] [⟨some 31, .bin .lss .num (.t 30) (.t 29), none, 0, []⟩])
  (.seq (.cond (.t 31) (.skip)
  (.exit 2))
  (.seq (.block 3 (.seq (.reg false [0, 1, 3, 9, 10, 11, 25, 26, 29, 30] [⟨some 32, .mv (.t 30), none, 0, []⟩,
    ⟨some 11, .mv (.t 32), none, 0, []⟩])
  (.seq (.reg false [0, 1, 3, 9, 10, 11, 25, 26, 29, 30, 41] [⟨some 33, .mv (.t 0), none, 0, []⟩,
    ⟨some 34, .mv (.t 3), none, 0, []⟩,
    ⟨some 35, .mv (.t 11), none, 0, []⟩,
    ⟨some 36, .mv (.t 10), none, 0, []⟩,
    ⟨some 37, .call (.t 34) [(.t 35), (.t 36)], none, 0, []⟩,
    ⟨some 38, .ext 0 (.t 37), none, 0, []⟩,
    ⟨some 39, .ext 1 (.t 37), none, 0, []⟩,
    ⟨some 40, .call (.f 48) [(.t 33), (.t 38), (.t 39)], none, 0, []⟩,
    ⟨some 41, .bin .eql .num (.t 40) (.c (.int .i64 1)), none, 0, []⟩])
  (.cond (.t 41) (.reg false [0, 1, 3, 9, 10, 25, 26, 29, 30] [⟨some 42, .mv (.t 9), none, 0, []⟩,
    ⟨some 43, .mv (.t 11), none, 0, []⟩,
    ⟨some 44, .mv (.t 10), none, 0, []⟩,
    ⟨some 45, .call (.f 49) [(.t 42), (.t 43), (.t 44), (.c (.int .i64 1))], none, 0, []⟩])
  (.skip)))))
  (.reg false [0, 1, 3, 9, 10, 25, 26, 29, 30] [⟨some 46, .bin .add .num (.t 30) (.c (.int .i64 1)), none, 0, []⟩,
    ⟨some 30, .mv (.t 46), none, 0, []⟩])))
def bitmap_Map_turned_l0 : Cd := .seq (.reg false [0, 1, 3, 9, 25, 26, 27] [⟨some 27, .bin .lss .num (.t 26) (.t 25), none, 0, []⟩])
  (.seq (.cond (.t 27) (.skip)
  (.exit 0))
  (.seq (.block 1 (.seq (.reg false [0, 1, 3, 9, 10, 25, 26] [⟨some 28, .mv (.t 26), none, 0, []⟩,
    ⟨some 10, .mv (.t 28), none, 0, []⟩])
  (.seq (.reg false [0, 1, 3, 9, 10, 25, 26, 29, 30] [⟨some 29, .mv (.t 1), none, 0, []⟩,
    ⟨some 30, .mv (.c (.int .i64 0)), none, 0, []⟩])
  (.block 2 (.loop [0, 1, 3, 9, 10, 25, 26, 29, 30] bitmap_Map_turned_l1)))))
  (.reg false [0, 1, 3, 9, 25, 26] [⟨some 47, .bin .add .num (.t 26) (.c (.int .i64 1)), none, 0, []⟩,
    ⟨some 26, .mv (.t 47), none, 0, []⟩])))
/-- (*burin/bitmap.Map).turned -/
def bitmap_Map_turned : AFun := ⟨4, 49, true, [.t 8],
  .seq (.reg false [0, 1, 2, 3] [⟨some 8, .mv (.c (.ptr none)), none, 0, []⟩])
  (.seq (.reg false [0, 1, 2, 3, 9] [⟨some 12, .mv (.t 1), none, 0, []⟩,
    ⟨some 13, .mv (.t 2), none, 0, []⟩,
    ⟨some 14, .mv (.t 1), none, 0, []⟩,
    ⟨some 15, .bin .add .num (.t 14) (.c (.int .i64 63)), none, 0, []⟩,
    ⟨some 16, .bin .quo .num (.t 15) (.c (.int .i64 64)), none, 0, []⟩,
    ⟨some 17, .mv (.t 2), none, 0, []⟩,
    ⟨some 18, .mv (.t 1), none, 0, []⟩,
    ⟨some 19, .bin .add .num (.t 18) (.c (.int .i64 63)), none, 0, []⟩,
    ⟨some 20, .bin .quo .num (.t 19) (.c (.int .i64 64)), none, 0, []⟩,
    ⟨some 21, .bin .mul .num (.t 17) (.t 20), none, 0, []⟩,
    ⟨some 22, .mkslice 1 8 [.int .u64 0] (.t 21) (.t 21), none, 0, []⟩,
    ⟨some 23, .build [.int .i64 0, .int .i64 0, .int .i64 0, .sl none 0 0 0] [(0, 1, (.t 12)), (1, 1, (.t 13)), (2, 1, (.t 16)), (3, 1, (.t 22))], none, 0, []⟩,
    ⟨some 24, .box 4 (.t 23), none, 0, []⟩,
    ⟨some 9, .mv (.t 24), none, 0, []⟩])
  (.seq (.seq (.reg false [0, 1, 3, 9, 25, 26] [⟨some 25, .mv (.t 2), none, 0, []⟩,
    ⟨some 26, .mv (.c (.int .i64 0)), none, 0, []⟩])
  (.block 0 (.loop [0, 1, 3, 9, 25, 26] bitmap_Map_turned_l0)))
  (.seq (.reg false [8] [⟨some 48, .mv (.t 9), none, 0, []⟩,
    ⟨some 8, .mv (.t 48), none, 0, []⟩])
  (.ret))))⟩

/-- (*burin/bitmap.Map).Mirror -/
def bitmap_Map_Mirror : AFun := ⟨1, 14, true, [.t 2],
  .seq (.reg false [1] [⟨some 1, .box 1 (.t 0), none, 0, []⟩,
    ⟨some 2, .mv (.c (.ptr none)), none, 0, []⟩])
  (.seq (.reg true [2] [⟨some 3, .load none (.t 1), none, 0, []⟩,
    ⟨some 4, .load none (.t 1), none, 1, []⟩,
    ⟨some 5, .nilck (.t 4), none, 2, []⟩,
    ⟨some 6, .fad 0 (.t 5), none, 3, []⟩,
    ⟨some 7, .load none (.t 6), none, 4, []⟩,
    ⟨some 8, .load none (.t 1), none, 5, []⟩,
    ⟨some 9, .nilck (.t 8), none, 6, []⟩,
    ⟨some 10, .fad 1 (.t 9), none, 7, []⟩,
    ⟨some 11, .load none (.t 10), none, 8, []⟩,
    ⟨some 12, .mkfn 68 [] [(.t 1)], none, 9, []⟩,
    ⟨some 13, .call (.f 67) [(.t 3), (.t 7), (.t 11), (.t 12)], none, 10, []⟩,
    ⟨some 2, .mv (.t 13), none, 11, []⟩])
  (.ret))⟩

/-- (*burin/bitmap.Map).Mirror$1 -/
def bitmap_Map_Mirror_1 : AFun := ⟨3, 15, true, [.t 5, .t 6],
  .seq (.reg false [0, 1, 2] [⟨some 5, .mv (.c (.int .i64 0)), none, 0, []⟩,
    ⟨some 6, .mv (.c (.int .i64 0)), none, 0, []⟩])
  (.seq (.reg false [5, 6] [⟨some 7, .load none (.t 2), none, 0, []⟩,
    ⟨some 8, .nilck (.t 7), none, 0, []⟩,
    ⟨some 9, .fad 0 (.t 8), none, 0, []⟩,
    ⟨some 10, .load none (.t 9), none, 0, []⟩,
    ⟨some 11, .bin .sub .num (.t 10) (.c (.int .i64 1)), none, 0, []⟩,
    ⟨some 12, .mv (.t 0), none, 0, []⟩,
    ⟨some 13, .bin .sub .num (.t 11) (.t 12), none, 0, []⟩,
    ⟨some 14, .mv (.t 1), none, 0, []⟩,
    ⟨some 5, .mv (.t 13), none, 0, []⟩,
    ⟨some 6, .mv (.t 14), none, 0, []⟩])
  (.ret))⟩

/-- (*burin/bitmap.Map).Turn -/
def bitmap_Map_Turn : AFun := ⟨1, 14, true, [.t 2],
  .seq (.reg false [1] [⟨some 1, .box 1 (.t 0), none, 0, []⟩,
    ⟨some 2, .mv (.c (.ptr none)), none, 0, []⟩])
  (.seq (.reg true [2] [⟨some 3, .load none (.t 1), none, 0, []⟩,
    ⟨some 4, .load none (.t 1), none, 1, []⟩,
    ⟨some 5, .nilck (.t 4), none, 2, []⟩,
    ⟨some 6, .fad 1 (.t 5), none, 3, []⟩,
    ⟨some 7, .load none (.t 6), none, 4, []⟩,
    ⟨some 8, .load none (.t 1), none, 5, []⟩,
    ⟨some 9, .nilck (.t 8), none, 6, []⟩,
    ⟨some 10, .fad 0 (.t 9), none, 7, []⟩,
    ⟨some 11, .load none (.t 10), none, 8, []⟩,
    ⟨some 12, .mkfn 70 [] [(.t 1)], none, 9, []⟩,
    ⟨some 13, .call (.f 67) [(.t 3), (.t 7), (.t 11), (.t 12)], none, 10, []⟩,
    ⟨some 2, .mv (.t 13), none, 11, []⟩])
  (.ret))⟩

/-- (*burin/bitmap.Map).Turn$1 -/
def bitmap_Map_Turn_1 : AFun := ⟨3, 15, true, [.t 5, .t 6],
  .seq (.reg false [0, 1, 2] [⟨some 5, .mv (.c (.int .i64 0)), none, 0, []⟩,
    ⟨some 6, .mv (.c (.int .i64 0)), none, 0, []⟩])
  (.seq (.reg true [5, 6] [⟨some 7, .mv (.t 1), none, 0, []⟩,
    ⟨some 8, .load none (.t 2), none, 1, []⟩,
    ⟨some 9, .nilck (.t 8), none, 2, []⟩,
    ⟨some 10, .fad 1 (.t 9), none, 3, []⟩,
    ⟨some 11, .load none (.t 10), none, 4, []⟩,
    ⟨some 12, .bin .sub .num (.t 11) (.c (.int .i64 1)), none, 5, []⟩,
    ⟨some 13, .mv (.t 0), none, 6, []⟩,
    ⟨some 14, .bin .sub .num (.t 12) (.t 13), none, 7, []⟩,
    ⟨some 5, .mv (.t 7), none, 8, []⟩,
    ⟨some 6, .mv (.t 14), none, 9, []⟩])
  (.ret))⟩

/-- burin/bitmap.Equal -/
def bitmap_Equal : AFun := ⟨2, 32, true, [.t 4],
  .seq (.reg false [2, 3] [⟨some 2, .box 3 (.t 0), none, 0, []⟩,
    ⟨some 3, .box 3 (.t 1), none, 0, []⟩,
    ⟨some 4, .mv (.c (.bool false)), none, 0, []⟩])
  (.seq (.reg false [4] [⟨some 5, .load (some 3) (.t 2), none, 0, []⟩,
    ⟨some 6, .call (.f 41) [(.t 5)], none, 0, []⟩,
    ⟨some 7, .mv (.t 6), none, 0, []⟩,
    ⟨some 8, .load (some 3) (.t 3), some (7, true), 0, []⟩,
    ⟨some 9, .call (.f 41) [(.t 8)], some (7, true), 0, []⟩,
    ⟨some 10, .pick (.t 7) (.t 9) (.c (.bool false)), none, 0, []⟩,
    ⟨some 11, .mv (.t 10), none, 0, []⟩,
    ⟨some 12, .fad 0 (.t 2), some (11, true), 0, []⟩,
    ⟨some 13, .load none (.t 12), some (11, true), 0, []⟩,
    ⟨some 14, .fad 0 (.t 3), some (11, true), 0, []⟩,
    ⟨some 15, .load none (.t 14), some (11, true), 0, []⟩,
    ⟨some 16, .bin .eql .num (.t 13) (.t 15), some (11, true), 0, []⟩,
    ⟨some 17, .pick (.t 11) (.t 16) (.c (.bool false)), none, 0, []⟩,
    ⟨some 18, .mv (.t 17), none, 0, []⟩,
    ⟨some 19, .fad 1 (.t 2), some (18, true), 0, []⟩,
    ⟨some 20, .load none (.t 19), some (18, true), 0, []⟩,
    ⟨some 21, .fad 1 (.t 3), some (18, true), 0, []⟩,
    ⟨some 22, .load none (.t 21), some (18, true), 0, []⟩,
    ⟨some 23, .bin .eql .num (.t 20) (.t 22), some (18, true), 0, []⟩,
    ⟨some 24, .pick (.t 18) (.t 23) (.c (.bool false)), none, 0, []⟩,
    ⟨some 25, .mv (.t 24), none, 0, []⟩,
    ⟨some 26, .fad 2 (.t 2), some (25, true), 0, []⟩,
    ⟨some 27, .load none (.t 26), some (25, true), 0, []⟩,
    ⟨some 28, .fad 2 (.t 3), some (25, true), 0, []⟩,
    ⟨some 29, .load none (.t 28), some (25, true), 0, []⟩,
    ⟨some 30, .call (.f 72) [(.t 27), (.t 29)], some (25, true), 0, []⟩,
    ⟨some 31, .pick (.t 25) (.t 30) (.c (.bool false)), none, 0, []⟩,
    ⟨some 4, .mv (.t 31), none, 0, []⟩])
  (.ret))⟩

/-- slices.Clone[[]uint64,uint64] -/
def slices_Clone_uint64_uint64 : AFun := ⟨1, 8, true, [.t 2],
  .seq (.reg false [0] [⟨some 2, .mv (.c (.sl none 0 0 0)), none, 0, []⟩])
  (.seq (.seq (.reg false [0, 4] [⟨some 3, .mv (.t 0), none, 0, []⟩,
    ⟨some 4, .bin .eql .slice (.t 3) (.c (.sl none 0 0 0)), none, 0, []⟩])
  (.cond (.t 4) (.seq (.reg false [2] [⟨some 2, .mv (.c (.sl none 0 0 0)), none, 0, []⟩])
  (.ret))
  (.skip)))
  (.seq (.reg false [2] [⟨some 5, .bslice 1 [.int .u64 0] 0 [], none, 0, []⟩,
    ⟨some 6, .mv (.t 0), none, 0, []⟩,
    ⟨some 7, .append 1 8 (.t 5) (.t 6), none, 0, []⟩,
    ⟨some 2, .mv (.t 7), none, 0, []⟩])
  (.ret)))⟩

def slices_Equal_uint64_uint64_l0 : Cd := .seq (.reg false [0, 1, 12, 13, 14] [⟨some 14, .bin .lss .num (.t 13) (.t 12), none, 0, []⟩])
  (.seq (.cond (.t 14) (.skip)
  (.exit 0))
  (.seq (.block 1 (.seq (.reg false [0, 1, 5, 12, 13] [⟨some 15, .mv (.t 13), none, 0, []⟩,
    ⟨some 5, .mv (.t 15), none, 0, []⟩])
  (.seq (.reg true [0, 1, 12, 13, 24] [⟨some 16, .mv (.t 0), none, 0, []⟩,
    ⟨some 17, .mv (.t 5), none, 1, []⟩,
    ⟨some 18, .iad none 1 (.t 16) (.t 17), none, 2, []⟩,
    ⟨some 19, .load none (.t 18), none, 3, []⟩,
    ⟨some 20, .mv (.t 1), none, 4, []⟩,
    ⟨some 21, .mv (.t 5), none, 5, []⟩,
    ⟨some 22, .iad none 1 (.t 20) (.t 21), none, 6, []⟩,
    ⟨some 23, .load none (.t 22), none, 7, []⟩,
    ⟨some 24, .bin .neq .num (.t 19) (.t 23), none, 8, []⟩])
  (.cond (.t 24) (.seq (.reg false [4] [⟨some 4, .mv (.c (.bool false)), none, 0, []⟩])
  (.ret))
  (.skip)))))
  (.reg false [0, 1, 12, 13] [⟨some 25, .bin .add .num (.t 13) (.c (.int .i64 1)), none, 0, []⟩,
    ⟨some 13, .mv (.t 25), none, 0, []⟩])))
/-- slices.Equal[[]uint64,uint64] -/
def slices_Equal_uint64_uint64 : AFun := ⟨2, 26, true, [.t 4],
  .seq (.reg false [0, 1] [⟨some 4, .mv (.c (.bool false)), none, 0, []⟩])
  (.seq (.seq (.reg false [0, 1, 10] [⟨some 6, .mv (.t 0), none, 0, []⟩,
    ⟨some 7, .len none (.t 6), none, 0, []⟩,
    ⟨some 8, .mv (.t 1), none, 0, []⟩,
    ⟨some 9, .len none (.t 8), none, 0, []⟩,
    ⟨some 10, .bin .neq .num (.t 7) (.t 9), none, 0, []⟩])
  (.cond (.t 10) (.seq (.reg false [4] [⟨some 4, .mv (.c (.bool false)), none, 0, []⟩])
  (.ret))
  (.skip)))
  (.seq (.seq (.reg false [0, 1, 12, 13] [⟨some 11, .mv (.t 0), none, 0, []⟩,
    ⟨some 12, .len none (.t 11), none, 0, []⟩,
    ⟨some 13, .mv (.c (.int .i64 0)), none, 0, []⟩])
  (.block 0 (.loop [0, 1, 12, 13] slices_Equal_uint64_uint64_l0)))
  (.seq (.reg false [4] [⟨some 4, .mv (.c (.bool true)), none, 0, []⟩])
  (.ret))))⟩

/-- math/bits.OnesCount64 -/
def math_bits_OnesCount64 : AFun := ⟨1, 35, true, [.t 2],
  .seq (.reg false [0] [⟨some 2, .mv (.c (.int .i64 0)), none, 0, []⟩])
  (.seq (.reg false [0] [⟨some 3, .mv (.t 0), none, 0, []⟩,
    ⟨some 4, .bin .shr .num (.t 3) (.c (.int .u64 1)), none, 0, []⟩,
    ⟨some 5, .bin .and .num (.t 4) (.c (.int .u64 6148914691236517205)), none, 0, []⟩,
    ⟨some 6, .mv (.t 0), none, 0, []⟩,
    ⟨some 7, .bin .and .num (.t 6) (.c (.int .u64 6148914691236517205)), none, 0, []⟩,
    ⟨some 8, .bin .add .num (.t 5) (.t 7), none, 0, []⟩,
    ⟨some 0, .mv (.t 8), none, 0, []⟩])
  (.seq (.reg false [0] [⟨some 9, .mv (.t 0), none, 0, []⟩,
    ⟨some 10, .bin .shr .num (.t 9) (.c (.int .u64 2)), none, 0, []⟩,
    ⟨some 11, .bin .and .num (.t 10) (.c (.int .u64 3689348814741910323)), none, 0, []⟩,
    ⟨some 12, .mv (.t 0), none, 0, []⟩,
    ⟨some 13, .bin .and .num (.t 12) (.c (.int .u64 3689348814741910323)), none, 0, []⟩,
    ⟨some 14, .bin .add .num (.t 11) (.t 13), none, 0, []⟩,
    ⟨some 0, .mv (.t 14), none, 0, []⟩])
  (.seq (.reg false [0] [⟨some 15, .mv (.t 0), none, 0, []⟩,
    ⟨some 16, .bin .shr .num (.t 15) (.c (.int .u64 4)), none, 0, []⟩,
    ⟨some 17, .mv (.t 0), none, 0, []⟩,
    ⟨some 18, .bin .add .num (.t 16) (.t 17), none, 0, []⟩,
    ⟨some 19, .bin .and .num (.t 18) (.c (.int .u64 1085102592571150095)), none, 0, []⟩,
    ⟨some 0, .mv (.t 19), none, 0, []⟩])
  (.seq (.reg false [0] [⟨some 20, .mv (.t 0), none, 0, []⟩,
    ⟨some 21, .mv (.t 0), none, 0, []⟩,
    ⟨some 22, .bin .shr .num (.t 21) (.c (.int .u64 8)), none, 0, []⟩,
    ⟨some 23, .bin .add .num (.t 20) (.t 22), none, 0, []⟩,
    ⟨some 0, .mv (.t 23), none, 0, []⟩])
  (.seq (.reg false [0] [⟨some 24, .mv (.t 0), none, 0, []⟩,
    ⟨some 25, .mv (.t 0), none, 0, []⟩,
    ⟨some 26, .bin .shr .num (.t 25) (.c (.int .u64 16)), none, 0, []⟩,
    ⟨some 27, .bin .add .num (.t 24) (.t 26), none, 0, []⟩,
    ⟨some 0, .mv (.t 27), none, 0, []⟩])
  (.seq (.reg false [0] [⟨some 28, .mv (.t 0), none, 0, []⟩,
    ⟨some 29, .mv (.t 0), none, 0, []⟩,
    ⟨some 30, .bin .shr .num (.t 29) (.c (.int .u64 32)), none, 0, []⟩,
    ⟨some 31, .bin .add .num (.t 28) (.t 30), none, 0, []⟩,
    ⟨some 0, .mv (.t 31), none, 0, []⟩])
  (.seq (.reg false [2] [⟨some 32, .mv (.t 0), none, 0, []⟩,
    ⟨some 33, .conv .i64 (.t 32), none, 0, []⟩,
    ⟨some 34, .bin .and .num (.t 33) (.c (.int .i64 127)), none, 0, []⟩,
    ⟨some 2, .mv (.t 34), none, 0, []⟩])
  (.ret))))))))⟩

/-- A program that has them. -/
structure HasBm (P : Prog) : Prop where
  h_bitmap_sized : P 39 = some bitmap_sized
  h_bitmap_last : P 40 = some bitmap_last
  h_bitmap_Check : P 41 = some bitmap_Check
  h_bitmap_New : P 42 = some bitmap_New
  h_bitmap_From : P 44 = some bitmap_From
  h_bitmap_Map_Plain : P 45 = some bitmap_Map_Plain
  h_bitmap_Map_Size : P 46 = some bitmap_Map_Size
  h_bitmap_Map_inside : P 47 = some bitmap_Map_inside
  h_bitmap_Map_Get : P 48 = some bitmap_Map_Get
  h_bitmap_Map_put : P 49 = some bitmap_Map_put
  h_bitmap_Map_Set : P 50 = some bitmap_Map_Set
  h_bitmap_Map_Count : P 52 = some bitmap_Map_Count
  h_bitmap_cut : P 53 = some bitmap_cut
  h_bitmap_both : P 54 = some bitmap_both
  h_bitmap_mask : P 55 = some bitmap_mask
  h_bitmap_Map_Fill : P 56 = some bitmap_Map_Fill
  h_bitmap_operations : P 62 = some bitmap_operations
  h_bitmap_operations_1 : P 57 = some bitmap_operations_1
  h_bitmap_operations_2 : P 58 = some bitmap_operations_2
  h_bitmap_operations_3 : P 59 = some bitmap_operations_3
  h_bitmap_operations_4 : P 60 = some bitmap_operations_4
  h_bitmap_operations_5 : P 61 = some bitmap_operations_5
  h_bitmap_word : P 63 = some bitmap_word
  h_bitmap_Map_Blit : P 64 = some bitmap_Map_Blit
  h_bitmap_Map_Crop : P 65 = some bitmap_Map_Crop
  h_bitmap_Map_Invert : P 66 = some bitmap_Map_Invert
  h_bitmap_Map_turned : P 67 = some bitmap_Map_turned
  h_bitmap_Map_Mirror : P 69 = some bitmap_Map_Mirror
  h_bitmap_Map_Mirror_1 : P 68 = some bitmap_Map_Mirror_1
  h_bitmap_Map_Turn : P 71 = some bitmap_Map_Turn
  h_bitmap_Map_Turn_1 : P 70 = some bitmap_Map_Turn_1
  h_bitmap_Equal : P 73 = some bitmap_Equal
  h_slices_Clone_uint64_uint64 : P 43 = some slices_Clone_uint64_uint64
  h_slices_Equal_uint64_uint64 : P 72 = some slices_Equal_uint64_uint64
  h_math_bits_OnesCount64 : P 51 = some math_bits_OnesCount64

end Go.Ab
