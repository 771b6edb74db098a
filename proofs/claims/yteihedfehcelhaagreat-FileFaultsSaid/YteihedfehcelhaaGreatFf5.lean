/- Parts of a proof over an abstract machine: PFw, Fc, Fd, Fq, Se, Sf, Sg, Sh, Sk, Sl, Sm, Sn, Sp, Fr, Bz, By, Sr, Fe, Fg, Fs, Ft, PFs, Fu. Conditions: none. -/
import Derived.ChangeArms
import Derived.WalkKit
import Derived.ProofKit
import Derived.OpenShut
import Derived.ShutString
import Derived.ChangeOld
import Derived.Below
import Derived.SizedLaws
import Derived.Test.YteihedfehcelhaaGreatFf1
import Derived.Test.YteihedfehcelhaaGreatFf2
import Derived.Test.YteihedfehcelhaaGreatFf3
import Derived.Test.YteihedfehcelhaaGreatFf4
set_option linter.all false
namespace Go.Ab
-- file_Write: 200, parameters ? ?; loops file_Write_l0 [1 ?, 11 ?, 12 ?, 87 ?, 88 ?, 89 ?]; file_Write_l1 [0 ?, 1 ?, 6 ?, 47 ?, 48 ?, 49 ?]; file_Write_l2 [0 ?, 1 ?, 6 ?, 20 ?, 21 ?, 22 ?]
-- file_Read: 199, parameters f; loops 
-- file_order_step: 202, parameters ? ?; loops file_order_step_l0 [0 ?, 3 ?, 23 ?, 24 ?, 25 ?]
-- file_caught: 204, parameters run; loops 
-- file_Read_1: 203, parameters   ; loops file_Read_1_l0 [2 , 5 h, 23 ]
-- file_order_may: 206, parameters ? ?; loops 
-- file_order_let: 205, parameters o s symbols; loops file_order_let_l0 [0 o, 2 symbols, 4 s, 9 , 10 , 11 ]
-- file_caught_1: 207, parameters ; loops 
-- file_opened: 213, parameters ?; loops 
-- file_reader_segments: 212, parameters r; loops 
-- file_reader_ended: 208, parameters r; loops 
-- file_pages_take: 211, parameters ? ?; loops 
-- slices_Sort_int_int: 185, parameters x; loops 
-- file_wrong: 214, parameters bad err; loops 
-- file_reader_segments_1: 215, parameters yield ; loops file_reader_segments_1_l0 [0 yield, 1 , 5 more]; file_reader_segments_1_l1 [0 yield, 1 , 13 , 14 , 15 ]
-- file_need: 216, parameters err; loops 
-- slices_pdqsortOrdered_int: 218, parameters ? ? ? ?; loops slices_pdqsortOrdered_int_l0 [0 ?, 1 ?, 2 ?, 3 ?, 8 ?, 9 ?]
-- math_bits_Len: 217, parameters x; loops 
-- file_reader_headers: 221, parameters r; loops file_reader_headers_l0 [0 r, 3 l]
-- file_reader_data: 219, parameters r length; loops 
-- file_reader_header: 220, parameters r; loops 
-- slices_insertionSortOrdered_int: 223, parameters data a b; loops slices_insertionSortOrdered_int_l0 [0 data, 1 a, 2 b, 6 i]; slices_insertionSortOrdered_int_l1 [0 data, 1 a, 2 b, 6 i, 7 j]
-- cmp_Less_int: 222, parameters x y; loops 
-- math_bits_Len32: 224, parameters x; loops 
-- math_bits_Len64: 112, parameters x; loops 
-- slices_Clone_byte_byte: 225, parameters s; loops 
-- cmp_isNaN_int: 226, parameters x; loops 
def file_Write_l2 : Cd := .seq (.reg false [0, 1, 6, 20, 21, 22, 23] [⟨some 23, .bin .lss .num (.t 22) (.t 21), none, 0, []⟩])
  (.seq (.cond (.t 23) (.skip)
  (.exit 0))
  (.seq (.block 1 (.seq (.reg false [0, 1, 6, 8, 20, 21, 22] [⟨some 24, .iad none 7 (.t 20) (.t 22), none, 0, []⟩,
    ⟨some 25, .load (some 7) (.t 24), none, 0, []⟩,
    ⟨some 8, .alloc [.int .i64 0, .int .i64 0, .int .i64 0, .sl none 0 0 0, .sl none 0 0 0, .bool false, .sl none 0 0 0], none, 0, []⟩,
    ⟨none, .store 7 (.t 8) (.t 25), none, 0, []⟩])
  (.seq (.reg false [0, 1, 6, 20, 21, 22, 28] [⟨some 26, .fad 1 (.t 8), none, 0, []⟩,
    ⟨some 27, .load none (.t 26), none, 0, []⟩,
    ⟨some 28, .bin .eql .num (.t 27) (.c (.int .i64 1)), none, 0, []⟩])
  (.cond (.t 28) (.reg false [0, 1, 6, 20, 21, 22] [⟨some 29, .mv (.t 6), none, 0, []⟩,
    ⟨some 30, .nilck (.t 29), none, 0, []⟩,
    ⟨some 31, .fad 2 (.t 30), none, 0, []⟩,
    ⟨some 32, .load none (.t 31), none, 0, []⟩,
    ⟨some 33, .bin .add .num (.t 32) (.c (.int .i64 1)), none, 0, []⟩,
    ⟨some 34, .nilck (.t 29), none, 0, []⟩,
    ⟨some 35, .fad 2 (.t 34), none, 0, []⟩,
    ⟨none, .store 1 (.t 35) (.t 33), none, 0, []⟩])
  (.skip)))))
  (.reg false [0, 1, 6, 20, 21, 22] [⟨some 36, .bin .add .num (.t 22) (.c (.int .i64 1)), none, 0, []⟩,
    ⟨some 22, .mv (.t 36), none, 0, []⟩])))
def file_Write_l1 : Cd := .seq (.reg false [0, 1, 6, 47, 48, 49, 50] [⟨some 50, .bin .lss .num (.t 49) (.t 48), none, 0, []⟩])
  (.seq (.cond (.t 50) (.skip)
  (.exit 2))
  (.seq (.block 3 (.seq (.reg false [0, 1, 6, 9, 10, 47, 48, 49] [⟨some 51, .mv (.t 49), none, 0, []⟩,
    ⟨some 52, .iad none 7 (.t 47) (.t 49), none, 0, []⟩,
    ⟨some 53, .load (some 7) (.t 52), none, 0, []⟩,
    ⟨some 10, .alloc [.int .i64 0, .int .i64 0, .int .i64 0, .sl none 0 0 0, .sl none 0 0 0, .bool false, .sl none 0 0 0], none, 0, []⟩,
    ⟨some 9, .mv (.t 51), none, 0, []⟩,
    ⟨none, .store 7 (.t 10) (.t 53), none, 0, []⟩])
  (.seq (.reg false [0, 1, 6, 47, 48, 49, 73] [⟨some 54, .load (some 7) (.t 10), none, 0, []⟩,
    ⟨some 55, .call (.f 154) [(.t 54)], none, 0, []⟩,
    ⟨some 56, .un .not (.t 55), none, 0, []⟩,
    ⟨some 57, .mv (.t 56), none, 0, []⟩,
    ⟨some 58, .fad 1 (.t 10), some (57, false), 0, []⟩,
    ⟨some 59, .load none (.t 58), some (57, false), 0, []⟩,
    ⟨some 60, .bin .eql .num (.t 59) (.c (.int .i64 7)), some (57, false), 0, []⟩,
    ⟨some 61, .mv (.t 9), some (57, false), 0, []⟩,
    ⟨some 62, .mv (.t 0), some (57, false), 0, []⟩,
    ⟨some 63, .len none (.t 62), some (57, false), 0, []⟩,
    ⟨some 64, .bin .sub .num (.t 63) (.c (.int .i64 1)), some (57, false), 0, []⟩,
    ⟨some 65, .bin .eql .num (.t 61) (.t 64), some (57, false), 0, []⟩,
    ⟨some 66, .bin .neq .bool (.t 60) (.t 65), some (57, false), 0, []⟩,
    ⟨some 67, .pick (.t 57) (.c (.bool true)) (.t 66), none, 0, []⟩,
    ⟨some 68, .mv (.t 67), none, 0, []⟩,
    ⟨some 69, .mv (.t 6), some (68, false), 0, []⟩,
    ⟨some 70, .load (some 7) (.t 10), some (68, false), 0, []⟩,
    ⟨some 71, .call (.f 202) [(.t 69), (.t 70)], some (68, false), 0, []⟩,
    ⟨some 72, .bin .neq .num (.t 71) (.c (.int .i64 0)), some (68, false), 0, []⟩,
    ⟨some 73, .pick (.t 68) (.c (.bool true)) (.t 72), none, 0, []⟩])
  (.cond (.t 73) (.seq (.reg false [4, 5] [⟨some 4, .mv (.c (.sl none 0 0 0)), none, 0, []⟩,
    ⟨some 5, .mv (.c (.int .i64 165)), none, 0, []⟩])
  (.ret))
  (.skip)))))
  (.reg false [0, 1, 6, 47, 48, 49] [⟨some 74, .bin .add .num (.t 49) (.c (.int .i64 1)), none, 0, []⟩,
    ⟨some 49, .mv (.t 74), none, 0, []⟩])))
def file_Write_l0 : Cd := .seq (.reg false [1, 11, 12, 87, 88, 89, 90] [⟨some 90, .bin .lss .num (.t 89) (.t 88), none, 0, []⟩])
  (.seq (.cond (.t 90) (.skip)
  (.exit 4))
  (.seq (.block 5 (.seq (.reg false [1, 11, 12, 14, 87, 88, 89] [⟨some 91, .iad none 7 (.t 87) (.t 89), none, 0, []⟩,
    ⟨some 92, .load (some 7) (.t 91), none, 0, []⟩,
    ⟨some 14, .alloc [.int .i64 0, .int .i64 0, .int .i64 0, .sl none 0 0 0, .sl none 0 0 0, .bool false, .sl none 0 0 0], none, 0, []⟩,
    ⟨none, .store 7 (.t 14) (.t 92), none, 0, []⟩])
  (.seq (.reg false [1, 11, 12, 14, 15, 16, 87, 88, 89] [⟨some 94, .load (some 7) (.t 14), none, 0, []⟩,
    ⟨some 95, .call (.f 156) [(.t 94)], none, 0, []⟩,
    ⟨some 93, .mv (.t 95), none, 0, []⟩,
    ⟨some 96, .ext 0 (.t 93), none, 0, []⟩,
    ⟨some 97, .ext 1 (.t 93), none, 0, []⟩,
    ⟨some 15, .mv (.t 96), none, 0, []⟩,
    ⟨some 16, .mv (.t 97), none, 0, []⟩])
  (.seq (.seq (.reg false [1, 11, 12, 14, 15, 87, 88, 89, 99] [⟨some 98, .mv (.t 16), none, 0, []⟩,
    ⟨some 99, .bin .neq .num (.t 98) (.c (.int .i64 0)), none, 0, []⟩])
  (.cond (.t 99) (.seq (.reg false [4, 5] [⟨some 4, .mv (.c (.sl none 0 0 0)), none, 0, []⟩,
    ⟨some 5, .mv (.c (.int .i64 165)), none, 0, []⟩])
  (.ret))
  (.skip)))
  (.seq (.reg false [1, 11, 12, 14, 87, 88, 89] [⟨some 100, .mv (.t 11), none, 0, []⟩,
    ⟨some 101, .mv (.t 15), none, 0, []⟩,
    ⟨some 102, .append 1 1 (.t 100) (.t 101), none, 0, []⟩,
    ⟨some 11, .mv (.t 102), none, 0, []⟩])
  (.seq (.reg false [1, 11, 12, 14, 87, 88, 89, 103] [⟨some 103, .mv (.t 1), none, 0, []⟩])
  (.cond (.t 103) (.reg false [1, 11, 12, 87, 88, 89] [⟨some 104, .mv (.t 12), none, 0, []⟩,
    ⟨some 105, .fad 6 (.t 14), none, 0, []⟩,
    ⟨some 106, .load none (.t 105), none, 0, []⟩,
    ⟨some 107, .append 1 1 (.t 104) (.t 106), none, 0, []⟩,
    ⟨some 12, .mv (.t 107), none, 0, []⟩])
  (.reg false [1, 11, 12, 87, 88, 89] [⟨some 108, .mv (.t 11), none, 0, []⟩,
    ⟨some 109, .fad 6 (.t 14), none, 0, []⟩,
    ⟨some 110, .load none (.t 109), none, 0, []⟩,
    ⟨some 111, .append 1 1 (.t 108) (.t 110), none, 0, []⟩,
    ⟨some 11, .mv (.t 111), none, 0, []⟩]))))))))
  (.reg false [1, 11, 12, 87, 88, 89] [⟨some 112, .bin .add .num (.t 89) (.c (.int .i64 1)), none, 0, []⟩,
    ⟨some 89, .mv (.t 112), none, 0, []⟩])))
/-- burin/file.Write -/
def file_Write : AFun := ⟨2, 116, true, [.t 4, .t 5],
  .seq (.reg false [0, 1] [⟨some 4, .mv (.c (.sl none 0 0 0)), none, 0, []⟩,
    ⟨some 5, .mv (.c (.int .i64 0)), none, 0, []⟩])
  (.seq (.reg false [0, 1, 6] [⟨some 17, .mp .mk, none, 0, []⟩,
    ⟨some 18, .build [.int .i64 0, .int .i64 0, .int .i64 0, .int .i64 0, .map none] [(4, 1, (.t 17))], none, 0, []⟩,
    ⟨some 19, .box 5 (.t 18), none, 0, []⟩,
    ⟨some 6, .mv (.t 19), none, 0, []⟩])
  (.seq (.seq (.reg false [0, 1, 6, 20, 21, 22] [⟨some 20, .mv (.t 0), none, 0, []⟩,
    ⟨some 21, .len none (.t 20), none, 0, []⟩,
    ⟨some 22, .mv (.c (.int .i64 0)), none, 0, []⟩])
  (.block 0 (.loop [0, 1, 6, 20, 21, 22] file_Write_l2)))
  (.seq (.seq (.reg false [0, 1, 6, 46] [⟨some 37, .mv (.t 6), none, 0, []⟩,
    ⟨some 38, .nilck (.t 37), none, 0, []⟩,
    ⟨some 39, .fad 2 (.t 38), none, 0, []⟩,
    ⟨some 40, .load none (.t 39), none, 0, []⟩,
    ⟨some 41, .bin .gtr .num (.t 40) (.c (.int .i64 64)), none, 0, []⟩,
    ⟨some 42, .mv (.t 41), none, 0, []⟩,
    ⟨some 43, .mv (.t 0), some (42, false), 0, []⟩,
    ⟨some 44, .len none (.t 43), some (42, false), 0, []⟩,
    ⟨some 45, .bin .eql .num (.t 44) (.c (.int .i64 0)), some (42, false), 0, []⟩,
    ⟨some 46, .pick (.t 42) (.c (.bool true)) (.t 45), none, 0, []⟩])
  (.cond (.t 46) (.seq (.reg false [4, 5] [⟨some 4, .mv (.c (.sl none 0 0 0)), none, 0, []⟩,
    ⟨some 5, .mv (.c (.int .i64 165)), none, 0, []⟩])
  (.ret))
  (.skip)))
  (.seq (.seq (.reg false [0, 1, 6, 47, 48, 49] [⟨some 47, .mv (.t 0), none, 0, []⟩,
    ⟨some 48, .len none (.t 47), none, 0, []⟩,
    ⟨some 49, .mv (.c (.int .i64 0)), none, 0, []⟩])
  (.block 2 (.loop [0, 1, 6, 47, 48, 49] file_Write_l1)))
  (.seq (.reg false [0, 1, 11] [⟨some 75, .bslice 1 [.int .u8 0] 4 [(0, (.c (.int .u8 66))), (1, (.c (.int .u8 85))), (2, (.c (.int .u8 82))), (3, (.c (.int .u8 1)))], none, 0, []⟩,
    ⟨some 76, .mp (.mark (.t 75)), none, 0, []⟩,
    ⟨some 77, .mv (.t 6), none, 0, []⟩,
    ⟨some 78, .nilck (.t 77), none, 0, []⟩,
    ⟨some 79, .fad 2 (.t 78), none, 0, []⟩,
    ⟨some 80, .load none (.t 79), none, 0, []⟩,
    ⟨some 81, .conv .u8 (.t 80), none, 0, []⟩,
    ⟨some 82, .bslice 1 [.int .u8 0] 2 [(0, (.c (.int .u8 0))), (1, (.t 81))], none, 0, []⟩,
    ⟨some 83, .append 1 1 (.t 76) (.t 82), none, 0, []⟩,
    ⟨some 11, .mv (.t 83), none, 0, []⟩])
  (.seq (.reg false [0, 1, 11, 12] [⟨some 12, .mv (.c (.sl none 0 0 0)), none, 0, []⟩])
  (.seq (.seq (.reg false [0, 1, 11, 12, 84] [⟨some 84, .mv (.t 1), none, 0, []⟩])
  (.cond (.t 84) (.reg false [0, 1, 11, 12] [⟨some 85, .mv (.t 11), none, 0, []⟩,
    ⟨some 86, .iad none 1 (.t 85) (.c (.int .i64 4)), none, 0, []⟩,
    ⟨none, .store 1 (.t 86) (.c (.int .u8 1)), none, 0, []⟩])
  (.skip)))
  (.seq (.seq (.reg false [1, 11, 12, 87, 88, 89] [⟨some 87, .mv (.t 0), none, 0, []⟩,
    ⟨some 88, .len none (.t 87), none, 0, []⟩,
    ⟨some 89, .mv (.c (.int .i64 0)), none, 0, []⟩])
  (.block 4 (.loop [1, 11, 12, 87, 88, 89] file_Write_l0)))
  (.seq (.reg false [4, 5] [⟨some 113, .mv (.t 11), none, 0, []⟩,
    ⟨some 114, .mv (.t 12), none, 0, []⟩,
    ⟨some 115, .append 1 1 (.t 113) (.t 114), none, 0, []⟩,
    ⟨some 4, .mv (.t 115), none, 0, []⟩,
    ⟨some 5, .mv (.c (.int .i64 0)), none, 0, []⟩])
  (.ret))))))))))⟩

/-- burin/file.Read -/
def file_Read : AFun := ⟨1, 20, true, [.t 2, .cell 3 none, .t 4],
  .seq (.reg false [1, 3] [⟨some 1, .box 1 (.t 0), none, 0, []⟩,
    ⟨some 2, .mv (.c (.sl none 0 0 0)), none, 0, []⟩,
    ⟨some 3, .alloc [.sl none 0 0 0], none, 0, []⟩,
    ⟨some 4, .mv (.c (.int .i64 0)), none, 0, []⟩])
  (.seq (.reg false [1, 3, 5] [⟨some 6, .mp .mk, none, 0, []⟩,
    ⟨some 7, .build [.int .i64 0, .int .i64 0, .int .i64 0, .int .i64 0, .map none] [(4, 1, (.t 6))], none, 0, []⟩,
    ⟨some 8, .build [.int .i64 0, .int .i64 0, .int .i64 0, .int .i64 0, .map none, .ptr none, .sl none 0 0 0] [(0, 5, (.t 7))], none, 0, []⟩,
    ⟨some 9, .box 7 (.t 8), none, 0, []⟩,
    ⟨some 5, .alloc [.ptr none], none, 0, []⟩,
    ⟨none, .store 1 (.t 5) (.t 9), none, 0, []⟩])
  (.seq (.reg false [3, 4, 5] [⟨some 10, .mkfn 203 [] [(.t 1), (.t 5), (.t 3)], none, 0, []⟩,
    ⟨some 11, .call (.f 204) [(.t 10)], none, 0, []⟩,
    ⟨some 4, .mv (.t 11), none, 0, []⟩])
  (.seq (.seq (.reg false [3, 4, 5, 13] [⟨some 12, .mv (.t 4), none, 0, []⟩,
    ⟨some 13, .bin .neq .num (.t 12) (.c (.int .i64 0)), none, 0, []⟩])
  (.cond (.t 13) (.seq (.reg false [2, 3, 4] [⟨some 14, .mv (.t 4), none, 0, []⟩,
    ⟨some 2, .mv (.c (.sl none 0 0 0)), none, 0, []⟩,
    ⟨none, .store 1 (.t 3) (.c (.sl none 0 0 0)), none, 0, []⟩,
    ⟨some 4, .mv (.t 14), none, 0, []⟩])
  (.ret))
  (.skip)))
  (.seq (.reg true [2, 3, 4] [⟨some 15, .load none (.t 5), none, 0, []⟩,
    ⟨some 16, .nilck (.t 15), none, 1, []⟩,
    ⟨some 17, .fad 6 (.t 16), none, 2, []⟩,
    ⟨some 18, .load none (.t 17), none, 3, []⟩,
    ⟨some 19, .load none (.t 3), none, 4, []⟩,
    ⟨some 2, .mv (.t 18), none, 5, []⟩,
    ⟨none, .store 1 (.t 3) (.t 19), none, 6, []⟩,
    ⟨some 4, .mv (.c (.int .i64 0)), none, 7, []⟩])
  (.ret)))))⟩

def file_order_step_l0 : Cd := .seq (.reg false [0, 3, 23, 24, 25, 26] [⟨some 26, .bin .lss .num (.t 25) (.t 24), none, 0, []⟩])
  (.seq (.cond (.t 26) (.skip)
  (.exit 1))
  (.seq (.block 2 (.seq (.reg false [0, 3, 6, 23, 24, 25] [⟨some 27, .iad none 1 (.t 23) (.t 25), none, 0, []⟩,
    ⟨some 28, .load none (.t 27), none, 0, []⟩,
    ⟨some 6, .mv (.t 28), none, 0, []⟩])
  (.seq (.reg false [0, 3, 8, 23, 24, 25] [⟨some 30, .mv (.t 0), none, 0, []⟩,
    ⟨some 31, .nilck (.t 30), none, 0, []⟩,
    ⟨some 32, .fad 4 (.t 31), none, 0, []⟩,
    ⟨some 33, .load none (.t 32), none, 0, []⟩,
    ⟨some 34, .mv (.t 6), none, 0, []⟩,
    ⟨some 35, .mp (.look (.agg [.sl none 0 0 0]) true (.t 33) (.t 34)), none, 0, []⟩,
    ⟨some 29, .mv (.t 35), none, 0, []⟩,
    ⟨some 36, .ext 0 (.t 29), none, 0, []⟩,
    ⟨some 37, .ext 1 (.t 29), none, 0, []⟩,
    ⟨some 7, .alloc [.sl none 0 0 0], none, 0, []⟩,
    ⟨none, .store 1 (.t 7) (.t 36), none, 0, []⟩,
    ⟨some 8, .mv (.t 37), none, 0, []⟩])
  (.seq (.reg false [0, 3, 23, 24, 25, 39] [⟨some 38, .mv (.t 8), none, 0, []⟩,
    ⟨some 39, .un .not (.t 38), none, 0, []⟩])
  (.cond (.t 39) (.seq (.reg false [4] [⟨some 4, .mv (.c (.int .i64 162)), none, 0, []⟩])
  (.ret))
  (.skip))))))
  (.reg false [0, 3, 23, 24, 25] [⟨some 40, .bin .add .num (.t 25) (.c (.int .i64 1)), none, 0, []⟩,
    ⟨some 25, .mv (.t 40), none, 0, []⟩])))
/-- (*burin/file.order).step -/
def file_order_step : AFun := ⟨2, 70, true, [.t 4],
  .seq (.reg false [0, 3] [⟨some 3, .box 7 (.t 1), none, 0, []⟩,
    ⟨some 4, .mv (.c (.int .i64 0)), none, 0, []⟩])
  (.seq (.block 0 (.seq (.reg true [0, 3, 9] [⟨some 10, .fad 0 (.t 3), none, 0, []⟩,
    ⟨some 11, .load none (.t 10), none, 1, []⟩,
    ⟨some 12, .mv (.t 0), none, 2, []⟩,
    ⟨some 13, .nilck (.t 12), none, 3, []⟩,
    ⟨some 14, .fad 0 (.t 13), none, 4, []⟩,
    ⟨some 15, .load none (.t 14), none, 5, []⟩,
    ⟨some 16, .bin .neq .num (.t 11) (.t 15), none, 6, []⟩,
    ⟨some 9, .mv (.t 16), none, 7, []⟩])
  (.cond (.t 9) (.seq (.reg false [4] [⟨some 4, .mv (.c (.int .i64 161)), none, 0, []⟩])
  (.ret))
  (.seq (.reg false [0, 3, 17] [⟨some 18, .mv (.t 0), none, 0, []⟩,
    ⟨some 19, .load (some 7) (.t 3), none, 0, []⟩,
    ⟨some 20, .call (.f 206) [(.t 18), (.t 19)], none, 0, []⟩,
    ⟨some 21, .un .not (.t 20), none, 0, []⟩,
    ⟨some 17, .mv (.t 21), none, 0, []⟩])
  (.cond (.t 17) (.seq (.reg false [4] [⟨some 4, .mv (.c (.int .i64 151)), none, 0, []⟩])
  (.ret))
  (.skip))))))
  (.seq (.seq (.reg false [0, 3, 23, 24, 25] [⟨some 22, .fad 3 (.t 3), none, 0, []⟩,
    ⟨some 23, .load none (.t 22), none, 0, []⟩,
    ⟨some 24, .len none (.t 23), none, 0, []⟩,
    ⟨some 25, .mv (.c (.int .i64 0)), none, 0, []⟩])
  (.block 1 (.loop [0, 3, 23, 24, 25] file_order_step_l0)))
  (.seq (.reg false [0, 3] [⟨some 41, .mv (.t 0), none, 0, []⟩,
    ⟨some 42, .nilck (.t 41), none, 0, []⟩,
    ⟨some 43, .fad 0 (.t 42), none, 0, []⟩,
    ⟨some 44, .load none (.t 43), none, 0, []⟩,
    ⟨some 45, .bin .add .num (.t 44) (.c (.int .i64 1)), none, 0, []⟩,
    ⟨some 46, .nilck (.t 41), none, 0, []⟩,
    ⟨some 47, .fad 0 (.t 46), none, 0, []⟩,
    ⟨none, .store 1 (.t 47) (.t 45), none, 0, []⟩])
  (.seq (.seq (.reg false [0, 3, 49] [⟨some 48, .fad 1 (.t 3), none, 0, []⟩,
    ⟨some 49, .load none (.t 48), none, 0, []⟩])
  (.block 3 (.seq (.reg false [0, 3, 49, 50] [⟨some 51, .bin .eql .num (.t 49) (.c (.int .i64 1)), none, 0, []⟩,
    ⟨some 50, .mv (.t 51), none, 0, []⟩])
  (.cond (.t 50) (.reg true [0, 3] [⟨some 52, .mv (.t 0), none, 0, []⟩,
    ⟨some 53, .mv (.t 0), none, 1, []⟩,
    ⟨some 54, .fad 2 (.t 3), none, 2, []⟩,
    ⟨some 55, .load none (.t 54), none, 3, []⟩,
    ⟨some 56, .fad 2 (.t 3), none, 4, []⟩,
    ⟨some 57, .load none (.t 56), none, 5, []⟩,
    ⟨some 58, .nilck (.t 52), none, 6, []⟩,
    ⟨some 59, .fad 3 (.t 58), none, 7, []⟩,
    ⟨none, .store 1 (.t 59) (.t 55), none, 8, [5]⟩,
    ⟨some 60, .nilck (.t 53), none, 9, []⟩,
    ⟨some 61, .fad 1 (.t 60), none, 10, []⟩,
    ⟨none, .store 1 (.t 61) (.t 57), none, 11, []⟩])
  (.seq (.reg false [0, 3, 62] [⟨some 63, .bin .eql .num (.t 49) (.c (.int .i64 6)), none, 0, []⟩,
    ⟨some 62, .mv (.t 63), none, 0, []⟩])
  (.cond (.t 62) (.reg false [0, 3] [⟨some 64, .mv (.t 0), none, 0, []⟩,
    ⟨some 65, .nilck (.t 64), none, 0, []⟩,
    ⟨some 66, .fad 3 (.t 65), none, 0, []⟩,
    ⟨none, .store 1 (.t 66) (.c (.int .i64 0)), none, 0, []⟩])
  (.skip)))))))
  (.seq (.reg false [] [⟨some 67, .mv (.t 0), none, 0, []⟩,
    ⟨some 68, .load (some 7) (.t 3), none, 0, []⟩,
    ⟨some 69, .call (.f 205) [(.t 67), (.t 68), (.c (.sl none 0 0 0))], none, 0, []⟩])
  (.seq (.reg false [4] [⟨some 4, .mv (.c (.int .i64 0)), none, 0, []⟩])
  (.ret)))))))⟩

/-- burin/file.caught -/
def file_caught : AFun := ⟨1, 6, false, [.cell 2 none],
  .seq (.reg false [0, 2] [⟨some 2, .alloc [.int .i64 0], none, 0, []⟩])
  (.seq (.reg false [0, 2] [⟨some 3, .mkfn 207 [] [(.t 2)], none, 0, []⟩,
    ⟨none, .dfr (.t 3) [], none, 0, []⟩])
  (.seq (.reg false [2] [⟨some 4, .mv (.t 0), none, 0, []⟩,
    ⟨some 5, .call (.t 4) [], none, 0, []⟩])
  (.seq (.reg false [2] [⟨none, .store 1 (.t 2) (.c (.int .i64 0)), none, 0, []⟩])
  (.ret))))⟩

def file_Read_1_l0 : Cd := .seq (.reg false [2, 5, 23, 25] [⟨some 24, .mp (.next (.t 23)), none, 0, []⟩,
    ⟨some 25, .ext 0 (.t 24), none, 0, []⟩])
  (.seq (.cond (.t 25) (.skip)
  (.exit 2))
  (.block 3 (.seq (.reg false [2, 5, 6, 23] [⟨some 26, .mp (.entry (.t 23)), none, 0, []⟩,
    ⟨some 27, .ext 0 (.t 26), none, 0, []⟩,
    ⟨some 6, .mv (.t 27), none, 0, []⟩])
  (.reg false [2, 5, 23] [⟨some 28, .fad 1 (.t 5), none, 0, []⟩,
    ⟨some 29, .load none (.t 28), none, 0, []⟩,
    ⟨some 30, .mv (.t 6), none, 0, []⟩,
    ⟨some 31, .bslice 1 [.int .i64 0] 1 [(0, (.t 30))], none, 0, []⟩,
    ⟨some 32, .append 1 8 (.t 29) (.t 31), none, 0, []⟩,
    ⟨some 33, .fad 1 (.t 5), none, 0, []⟩,
    ⟨none, .store 1 (.t 33) (.t 32), none, 0, []⟩]))))
/-- burin/file.Read$1 -/
def file_Read_1 : AFun := ⟨3, 43, false, [],
  .seq (.reg false [1, 2, 3] [⟨some 7, .load none (.t 0), none, 0, []⟩,
    ⟨some 8, .call (.f 213) [(.t 7)], none, 0, []⟩,
    ⟨some 3, .mv (.t 8), none, 0, []⟩])
  (.seq (.seq (.reg false [1, 2, 3, 10] [⟨some 9, .mv (.t 3), none, 0, []⟩,
    ⟨some 10, .call (.f 212) [(.t 9)], none, 0, []⟩])
  (.block 0 (.rangeF (.t 10) 209 210 [1, 2])))
  (.reg false [] [⟨some 41, .mv (.t 3), none, 0, []⟩,
    ⟨some 42, .call (.f 208) [(.t 41)], none, 0, []⟩]))⟩
/-- a round of it -/
def file_Read_1_rng : AFun := ⟨2, 43, true, [.t 0],
  .rnd 209 [11] (.reg false [1, 2, 4] [⟨some 4, .alloc [.int .i64 0, .int .i64 0, .int .i64 0, .sl none 0 0 0, .sl none 0 0 0, .bool false, .sl none 0 0 0], none, 0, []⟩,
    ⟨none, .store 7 (.t 4) (.t 11), none, 0, []⟩])
  (.block 1 (.seq (.reg false [1, 2, 4] [⟨some 12, .load none (.t 1), none, 0, []⟩,
    ⟨some 13, .load (some 7) (.t 4), none, 0, []⟩,
    ⟨some 14, .call (.f 211) [(.t 12), (.t 13)], none, 0, []⟩])
  (.seq (.reg false [1, 2, 5] [⟨some 15, .fad 0 (.t 4), none, 0, []⟩,
    ⟨some 16, .load none (.t 15), none, 0, []⟩,
    ⟨some 17, .build [.int .i64 0, .sl none 0 0 0] [(0, 1, (.t 16))], none, 0, []⟩,
    ⟨some 5, .alloc [.int .i64 0, .sl none 0 0 0], none, 0, []⟩,
    ⟨none, .store 2 (.t 5) (.t 17), none, 0, []⟩])
  (.seq (.seq (.reg false [2, 5, 23] [⟨some 18, .load none (.t 1), none, 0, []⟩,
    ⟨some 19, .nilck (.t 18), none, 0, []⟩,
    ⟨some 20, .fad 0 (.t 19), none, 0, []⟩,
    ⟨some 21, .fad 4 (.t 20), none, 0, []⟩,
    ⟨some 22, .load none (.t 21), none, 0, []⟩,
    ⟨some 23, .mp (.range (.t 22)), none, 0, []⟩])
  (.block 2 (.loop [2, 5, 23] file_Read_1_l0)))
  (.seq (.reg false [2, 5] [⟨some 34, .fad 1 (.t 5), none, 0, []⟩,
    ⟨some 35, .load none (.t 34), none, 0, []⟩,
    ⟨some 36, .call (.f 185) [(.t 35)], none, 0, []⟩])
  (.reg false [] [⟨some 37, .load none (.t 2), none, 0, []⟩,
    ⟨some 38, .load (some 2) (.t 5), none, 0, []⟩,
    ⟨some 39, .bslice 2 [.int .i64 0, .sl none 0 0 0] 1 [(0, (.t 38))], none, 0, []⟩,
    ⟨some 40, .append 2 32 (.t 37) (.t 39), none, 0, []⟩,
    ⟨none, .store 1 (.t 2) (.t 40), none, 0, []⟩]))))))⟩

/-- (*burin/file.order).may -/
def file_order_may : AFun := ⟨2, 79, true, [.t 4],
  .seq (.reg false [0, 3] [⟨some 3, .box 7 (.t 1), none, 0, []⟩,
    ⟨some 4, .mv (.c (.bool false)), none, 0, []⟩])
  (.seq (.seq (.reg false [0, 3, 6] [⟨some 5, .fad 1 (.t 3), none, 0, []⟩,
    ⟨some 6, .load none (.t 5), none, 0, []⟩])
  (.block 0 (.seq (.reg false [0, 3, 6, 7] [⟨some 8, .bin .eql .num (.t 6) (.c (.int .i64 1)), none, 0, []⟩,
    ⟨some 7, .mv (.t 8), none, 0, []⟩])
  (.cond (.t 7) (.seq (.reg true [4] [⟨some 9, .mv (.t 0), none, 0, []⟩,
    ⟨some 10, .nilck (.t 9), none, 1, []⟩,
    ⟨some 11, .fad 3 (.t 10), none, 2, []⟩,
    ⟨some 12, .load none (.t 11), none, 3, []⟩,
    ⟨some 13, .bin .eql .num (.t 12) (.c (.int .i64 0)), none, 4, []⟩,
    ⟨some 14, .mv (.t 13), none, 5, []⟩,
    ⟨some 15, .fad 2 (.t 3), some (14, true), 6, []⟩,
    ⟨some 16, .load none (.t 15), some (14, true), 7, []⟩,
    ⟨some 17, .mv (.t 0), some (14, true), 8, []⟩,
    ⟨some 18, .nilck (.t 17), some (14, true), 9, []⟩,
    ⟨some 19, .fad 1 (.t 18), some (14, true), 10, []⟩,
    ⟨some 20, .load none (.t 19), some (14, true), 11, []⟩,
    ⟨some 21, .bin .add .num (.t 20) (.c (.int .i64 1)), some (14, true), 12, []⟩,
    ⟨some 22, .bin .eql .num (.t 16) (.t 21), some (14, true), 13, []⟩,
    ⟨some 23, .pick (.t 14) (.t 22) (.c (.bool false)), none, 14, []⟩,
    ⟨some 24, .mv (.t 23), none, 15, []⟩,
    ⟨some 25, .fad 2 (.t 3), some (24, true), 16, []⟩,
    ⟨some 26, .load none (.t 25), some (24, true), 17, []⟩,
    ⟨some 27, .mv (.t 0), some (24, true), 18, []⟩,
    ⟨some 28, .nilck (.t 27), some (24, true), 19, []⟩,
    ⟨some 29, .fad 2 (.t 28), some (24, true), 20, []⟩,
    ⟨some 30, .load none (.t 29), some (24, true), 21, []⟩,
    ⟨some 31, .bin .leq .num (.t 26) (.t 30), some (24, true), 22, []⟩,
    ⟨some 32, .pick (.t 24) (.t 31) (.c (.bool false)), none, 23, []⟩,
    ⟨some 4, .mv (.t 32), none, 24, []⟩])
  (.ret))
  (.seq (.reg false [0, 3, 6, 33] [⟨some 34, .bin .eql .num (.t 6) (.c (.int .i64 2)), none, 0, []⟩,
    ⟨some 33, .mv (.t 34), none, 0, []⟩])
  (.cond (.t 33) (.seq (.reg true [4] [⟨some 35, .fad 2 (.t 3), none, 0, []⟩,
    ⟨some 36, .load none (.t 35), none, 1, []⟩,
    ⟨some 37, .bin .eql .num (.t 36) (.c (.int .i64 0)), none, 2, []⟩,
    ⟨some 38, .mv (.t 37), none, 3, []⟩,
    ⟨some 39, .fad 2 (.t 3), some (38, false), 4, []⟩,
    ⟨some 40, .load none (.t 39), some (38, false), 5, []⟩,
    ⟨some 41, .mv (.t 0), some (38, false), 6, []⟩,
    ⟨some 42, .nilck (.t 41), some (38, false), 7, []⟩,
    ⟨some 43, .fad 3 (.t 42), some (38, false), 8, []⟩,
    ⟨some 44, .load none (.t 43), some (38, false), 9, []⟩,
    ⟨some 45, .bin .eql .num (.t 40) (.t 44), some (38, false), 10, []⟩,
    ⟨some 46, .pick (.t 38) (.c (.bool true)) (.t 45), none, 11, []⟩,
    ⟨some 4, .mv (.t 46), none, 12, []⟩])
  (.ret))
  (.seq (.reg false [0, 3, 47] [⟨some 48, .bin .eql .num (.t 6) (.c (.int .i64 7)), none, 0, []⟩,
    ⟨some 47, .mv (.t 48), none, 0, []⟩])
  (.cond (.t 47) (.seq (.reg true [4] [⟨some 49, .mv (.t 0), none, 0, []⟩,
    ⟨some 50, .nilck (.t 49), none, 1, []⟩,
    ⟨some 51, .fad 3 (.t 50), none, 2, []⟩,
    ⟨some 52, .load none (.t 51), none, 3, []⟩,
    ⟨some 53, .bin .eql .num (.t 52) (.c (.int .i64 0)), none, 4, []⟩,
    ⟨some 54, .mv (.t 53), none, 5, []⟩,
    ⟨some 55, .mv (.t 0), some (54, true), 6, []⟩,
    ⟨some 56, .nilck (.t 55), some (54, true), 7, []⟩,
    ⟨some 57, .fad 1 (.t 56), some (54, true), 8, []⟩,
    ⟨some 58, .load none (.t 57), some (54, true), 9, []⟩,
    ⟨some 59, .mv (.t 0), some (54, true), 10, []⟩,
    ⟨some 60, .nilck (.t 59), some (54, true), 11, []⟩,
    ⟨some 61, .fad 2 (.t 60), some (54, true), 12, []⟩,
    ⟨some 62, .load none (.t 61), some (54, true), 13, []⟩,
    ⟨some 63, .bin .eql .num (.t 58) (.t 62), some (54, true), 14, []⟩,
    ⟨some 64, .pick (.t 54) (.t 63) (.c (.bool false)), none, 15, []⟩,
    ⟨some 4, .mv (.t 64), none, 16, []⟩])
  (.ret))
  (.skip)))))))))
  (.seq (.reg true [4] [⟨some 65, .mv (.t 0), none, 0, []⟩,
    ⟨some 66, .nilck (.t 65), none, 1, []⟩,
    ⟨some 67, .fad 3 (.t 66), none, 2, []⟩,
    ⟨some 68, .load none (.t 67), none, 3, []⟩,
    ⟨some 69, .bin .neq .num (.t 68) (.c (.int .i64 0)), none, 4, []⟩,
    ⟨some 70, .mv (.t 69), none, 5, []⟩,
    ⟨some 71, .fad 2 (.t 3), some (70, true), 6, []⟩,
    ⟨some 72, .load none (.t 71), some (70, true), 7, []⟩,
    ⟨some 73, .mv (.t 0), some (70, true), 8, []⟩,
    ⟨some 74, .nilck (.t 73), some (70, true), 9, []⟩,
    ⟨some 75, .fad 3 (.t 74), some (70, true), 10, []⟩,
    ⟨some 76, .load none (.t 75), some (70, true), 11, []⟩,
    ⟨some 77, .bin .eql .num (.t 72) (.t 76), some (70, true), 12, []⟩,
    ⟨some 78, .pick (.t 70) (.t 77) (.c (.bool false)), none, 13, []⟩,
    ⟨some 4, .mv (.t 78), none, 14, []⟩])
  (.ret)))⟩

def file_order_let_l0 : Cd := .seq (.reg false [0, 2, 4, 9, 10, 11, 12] [⟨some 12, .bin .lss .num (.t 11) (.t 10), none, 0, []⟩])
  (.seq (.cond (.t 12) (.skip)
  (.exit 0))
  (.seq (.block 1 (.seq (.reg false [0, 2, 4, 6, 7, 9, 10, 11] [⟨some 13, .mv (.t 11), none, 0, []⟩,
    ⟨some 14, .iad none 1 (.t 9) (.t 11), none, 0, []⟩,
    ⟨some 15, .load none (.t 14), none, 0, []⟩,
    ⟨some 6, .mv (.t 13), none, 0, []⟩,
    ⟨some 7, .mv (.t 15), none, 0, []⟩])
  (.seq (.reg false [0, 2, 4, 7, 9, 10, 11, 21] [⟨some 16, .fad 4 (.t 4), none, 0, []⟩,
    ⟨some 17, .load none (.t 16), none, 0, []⟩,
    ⟨some 18, .mv (.t 6), none, 0, []⟩,
    ⟨some 19, .iad none 1 (.t 17) (.t 18), none, 0, []⟩,
    ⟨some 20, .load none (.t 19), none, 0, []⟩,
    ⟨some 21, .un .not (.t 20), none, 0, []⟩])
  (.cond (.t 21) (.reg false [0, 2, 4, 9, 10, 11] [⟨some 22, .mv (.t 0), none, 0, []⟩,
    ⟨some 23, .nilck (.t 22), none, 0, []⟩,
    ⟨some 24, .fad 4 (.t 23), none, 0, []⟩,
    ⟨some 25, .load none (.t 24), none, 0, []⟩,
    ⟨some 26, .mv (.t 7), none, 0, []⟩,
    ⟨none, .mp (.del (.t 25) (.t 26)), none, 0, []⟩])
  (.skip)))))
  (.reg false [0, 2, 4, 9, 10, 11] [⟨some 27, .bin .add .num (.t 11) (.c (.int .i64 1)), none, 0, []⟩,
    ⟨some 11, .mv (.t 27), none, 0, []⟩])))
/-- (*burin/file.order).let -/
def file_order_let : AFun := ⟨3, 38, true, [],
  .seq (.reg false [0, 2, 4] [⟨some 4, .box 7 (.t 1), none, 0, []⟩])
  (.seq (.seq (.reg false [0, 2, 4, 9, 10, 11] [⟨some 8, .fad 3 (.t 4), none, 0, []⟩,
    ⟨some 9, .load none (.t 8), none, 0, []⟩,
    ⟨some 10, .len none (.t 9), none, 0, []⟩,
    ⟨some 11, .mv (.c (.int .i64 0)), none, 0, []⟩])
  (.block 0 (.loop [0, 2, 4, 9, 10, 11] file_order_let_l0)))
  (.seq (.reg false [0, 2, 4, 29] [⟨some 28, .fad 5 (.t 4), none, 0, []⟩,
    ⟨some 29, .load none (.t 28), none, 0, []⟩])
  (.cond (.t 29) (.reg true [] [⟨some 30, .mv (.t 0), none, 0, []⟩,
    ⟨some 31, .nilck (.t 30), none, 1, []⟩,
    ⟨some 32, .fad 4 (.t 31), none, 2, []⟩,
    ⟨some 33, .load none (.t 32), none, 3, []⟩,
    ⟨some 34, .fad 0 (.t 4), none, 4, []⟩,
    ⟨some 35, .load none (.t 34), none, 5, []⟩,
    ⟨some 36, .mv (.t 2), none, 6, []⟩,
    ⟨some 37, .build [.sl none 0 0 0] [(0, 1, (.t 36))], none, 7, []⟩,
    ⟨none, .mp (.upd (.t 33) (.t 35) (.t 37)), none, 8, []⟩])
  (.skip))))⟩

/-- burin/file.caught$1 -/
def file_caught_1 : AFun := ⟨1, 17, false, [],
  .recov 4 (.seq (.reg false [0, 1] [⟨some 1, .mv (.t 4), none, 0, []⟩])
  (.seq (.reg false [0, 1, 6] [⟨some 5, .mv (.t 1), none, 0, []⟩,
    ⟨some 6, .isnil true (.t 5), none, 0, []⟩])
  (.cond (.t 6) (.seq (.reg false [0, 1, 2, 3] [⟨some 8, .mv (.t 1), none, 0, []⟩,
    ⟨some 9, .asrt 1 (.t 8), none, 0, []⟩,
    ⟨some 7, .mv (.t 9), none, 0, []⟩,
    ⟨some 10, .ext 0 (.t 7), none, 0, []⟩,
    ⟨some 11, .ext 1 (.t 7), none, 0, []⟩,
    ⟨some 2, .alloc [.int .i64 0], none, 0, []⟩,
    ⟨none, .store 1 (.t 2) (.t 10), none, 0, []⟩,
    ⟨some 3, .mv (.t 11), none, 0, []⟩])
  (.seq (.seq (.reg false [0, 1, 2, 13] [⟨some 12, .mv (.t 3), none, 0, []⟩,
    ⟨some 13, .un .not (.t 12), none, 0, []⟩])
  (.cond (.t 13) (.reg false [0, 2] [⟨some 14, .mv (.t 1), none, 0, []⟩,
    ⟨none, .pan (.t 14), none, 0, []⟩])
  (.skip)))
  (.reg false [] [⟨some 15, .fad 0 (.t 2), none, 0, []⟩,
    ⟨some 16, .load none (.t 15), none, 0, []⟩,
    ⟨none, .store 1 (.t 0) (.t 16), none, 0, []⟩])))
  (.skip))))⟩

/-- burin/file.opened -/
def file_opened : AFun := ⟨1, 73, true, [.t 2],
  .seq (.reg false [0] [⟨some 2, .mv (.c (.ptr none)), none, 0, []⟩])
  (.seq (.reg false [0] [⟨some 8, .mv (.t 0), none, 0, []⟩,
    ⟨some 9, .len none (.t 8), none, 0, []⟩,
    ⟨some 10, .bin .lss .num (.t 9) (.c (.int .i64 4)), none, 0, []⟩,
    ⟨some 11, .mv (.t 10), none, 0, []⟩,
    ⟨some 12, .mv (.t 0), some (11, false), 0, []⟩,
    ⟨some 13, .slice 1 (.t 12) none (some (.c (.int .i64 4))) none, some (11, false), 0, []⟩,
    ⟨some 14, .mp (.b2s (.t 13)), some (11, false), 0, []⟩,
    ⟨some 15, .bin .neq .num (.t 14) (.c (.str ⟨#[66, 85, 82, 1]⟩)), some (11, false), 0, []⟩,
    ⟨some 16, .pick (.t 11) (.c (.bool true)) (.t 15), none, 0, []⟩,
    ⟨some 17, .call (.f 214) [(.t 16), (.c (.int .i64 160))], none, 0, []⟩])
  (.seq (.reg false [0, 3] [⟨some 18, .mv (.t 0), none, 0, []⟩,
    ⟨some 19, .mp .mk, none, 0, []⟩,
    ⟨some 20, .build [.int .i64 0, .int .i64 0, .int .i64 0, .int .i64 0, .map none] [(4, 1, (.t 19))], none, 0, []⟩,
    ⟨some 21, .build [.sl none 0 0 0, .int .i64 0, .bool false, .int .i64 0, .int .i64 0, .int .i64 0, .int .i64 0, .map none] [(0, 1, (.t 18)), (3, 5, (.t 20))], none, 0, []⟩,
    ⟨some 22, .box 8 (.t 21), none, 0, []⟩,
    ⟨some 3, .mv (.t 22), none, 0, []⟩])
  (.seq (.reg false [0, 3, 4] [⟨some 23, .mv (.t 0), none, 0, []⟩,
    ⟨some 24, .slice 1 (.t 23) (some (.c (.int .i64 4))) none none, none, 0, []⟩,
    ⟨some 25, .call (.f 10) [(.t 24)], none, 0, []⟩,
    ⟨some 4, .mv (.t 25), none, 0, []⟩])
  (.seq (.reg false [0, 3, 4, 5, 6] [⟨some 27, .mv (.t 4), none, 0, []⟩,
    ⟨some 28, .call (.f 12) [(.t 27), (.c (.int .i64 8))], none, 0, []⟩,
    ⟨some 26, .mv (.t 28), none, 0, []⟩,
    ⟨some 29, .ext 0 (.t 26), none, 0, []⟩,
    ⟨some 30, .ext 1 (.t 26), none, 0, []⟩,
    ⟨some 5, .mv (.t 29), none, 0, []⟩,
    ⟨some 6, .mv (.t 30), none, 0, []⟩])
  (.seq (.reg false [0, 3, 4, 5] [⟨some 31, .mv (.t 6), none, 0, []⟩,
    ⟨some 32, .bin .neq .num (.t 31) (.c (.int .i64 0)), none, 0, []⟩,
    ⟨some 33, .call (.f 214) [(.t 32), (.c (.int .i64 163))], none, 0, []⟩])
  (.seq (.reg false [0, 3, 4, 5] [⟨some 34, .mv (.t 5), none, 0, []⟩,
    ⟨some 35, .bin .gtr .num (.t 34) (.c (.int .u64 1)), none, 0, []⟩,
    ⟨some 36, .call (.f 214) [(.t 35), (.c (.int .i64 161))], none, 0, []⟩])
  (.seq (.reg false [0, 3, 4, 5, 6, 7] [⟨some 38, .mv (.t 4), none, 0, []⟩,
    ⟨some 39, .call (.f 15) [(.t 38)], none, 0, []⟩,
    ⟨some 37, .mv (.t 39), none, 0, []⟩,
    ⟨some 40, .ext 0 (.t 37), none, 0, []⟩,
    ⟨some 41, .ext 1 (.t 37), none, 0, []⟩,
    ⟨some 7, .mv (.t 40), none, 0, []⟩,
    ⟨some 6, .mv (.t 41), none, 0, []⟩])
  (.seq (.reg false [0, 3, 4, 5, 6, 7] [⟨some 42, .mv (.t 6), none, 0, []⟩,
    ⟨some 43, .bin .eql .num (.t 42) (.c (.int .i64 14)), none, 0, []⟩,
    ⟨some 44, .call (.f 214) [(.t 43), (.c (.int .i64 163))], none, 0, []⟩])
  (.seq (.reg false [0, 3, 4, 5, 7] [⟨some 45, .mv (.t 6), none, 0, []⟩,
    ⟨some 46, .bin .neq .num (.t 45) (.c (.int .i64 0)), none, 0, []⟩,
    ⟨some 47, .mv (.t 46), none, 0, []⟩,
    ⟨some 48, .mv (.t 7), some (47, false), 0, []⟩,
    ⟨some 49, .bin .gtr .num (.t 48) (.c (.int .u64 64)), some (47, false), 0, []⟩,
    ⟨some 50, .pick (.t 47) (.c (.bool true)) (.t 49), none, 0, []⟩,
    ⟨some 51, .call (.f 214) [(.t 50), (.c (.int .i64 161))], none, 0, []⟩])
  (.seq (.reg false [3] [⟨some 52, .mv (.t 3), none, 0, []⟩,
    ⟨some 53, .mv (.t 3), none, 0, []⟩,
    ⟨some 54, .mv (.t 3), none, 0, []⟩,
    ⟨some 55, .mv (.t 0), none, 0, []⟩,
    ⟨some 56, .len none (.t 55), none, 0, []⟩,
    ⟨some 57, .mv (.t 4), none, 0, []⟩,
    ⟨some 58, .call (.f 11) [(.t 57)], none, 0, []⟩,
    ⟨some 59, .bin .quo .num (.t 58) (.c (.int .i64 8)), none, 0, []⟩,
    ⟨some 60, .bin .sub .num (.t 56) (.t 59), none, 0, []⟩,
    ⟨some 61, .mv (.t 5), none, 0, []⟩,
    ⟨some 62, .bin .eql .num (.t 61) (.c (.int .u64 1)), none, 0, []⟩,
    ⟨some 63, .mv (.t 7), none, 0, []⟩,
    ⟨some 64, .conv .i64 (.t 63), none, 0, []⟩,
    ⟨some 65, .nilck (.t 52), none, 0, []⟩,
    ⟨some 66, .fad 1 (.t 65), none, 0, []⟩,
    ⟨none, .store 1 (.t 66) (.t 60), none, 0, []⟩,
    ⟨some 67, .nilck (.t 53), none, 0, []⟩,
    ⟨some 68, .fad 2 (.t 67), none, 0, []⟩,
    ⟨none, .store 1 (.t 68) (.t 62), none, 0, []⟩,
    ⟨some 69, .nilck (.t 54), none, 0, []⟩,
    ⟨some 70, .fad 3 (.t 69), none, 0, []⟩,
    ⟨some 71, .fad 2 (.t 70), none, 0, []⟩,
    ⟨none, .store 1 (.t 71) (.t 64), none, 0, []⟩])
  (.seq (.reg false [2] [⟨some 72, .mv (.t 3), none, 0, []⟩,
    ⟨some 2, .mv (.t 72), none, 0, []⟩])
  (.ret))))))))))))⟩

/-- (*burin/file.reader).segments -/
def file_reader_segments : AFun := ⟨1, 4, true, [.t 2],
  .seq (.reg false [1] [⟨some 1, .box 1 (.t 0), none, 0, []⟩,
    ⟨some 2, .mv (.c .nilfn), none, 0, []⟩])
  (.seq (.reg false [2] [⟨some 3, .mkfn 215 [] [(.t 1)], none, 0, []⟩,
    ⟨some 2, .mv (.t 3), none, 0, []⟩])
  (.ret))⟩

/-- (*burin/file.reader).ended -/
def file_reader_ended : AFun := ⟨1, 13, true, [],
  .reg true [] [⟨some 2, .mv (.t 0), none, 0, []⟩,
    ⟨some 3, .nilck (.t 2), none, 1, []⟩,
    ⟨some 4, .fad 1 (.t 3), none, 2, []⟩,
    ⟨some 5, .load none (.t 4), none, 3, []⟩,
    ⟨some 6, .mv (.t 0), none, 4, []⟩,
    ⟨some 7, .nilck (.t 6), none, 5, []⟩,
    ⟨some 8, .fad 0 (.t 7), none, 6, []⟩,
    ⟨some 9, .load none (.t 8), none, 7, []⟩,
    ⟨some 10, .len none (.t 9), none, 8, []⟩,
    ⟨some 11, .bin .lss .num (.t 5) (.t 10), none, 9, []⟩,
    ⟨some 12, .call (.f 214) [(.t 11), (.c (.int .i64 164))], none, 10, []⟩]⟩

/-- (*burin/file.pages).take -/
def file_pages_take : AFun := ⟨2, 97, true, [],
  .seq (.reg false [0, 3] [⟨some 3, .box 7 (.t 1), none, 0, []⟩])
  (.seq (.reg false [0, 3, 4] [⟨some 4, .mv (.c (.sl none 0 0 0)), none, 0, []⟩])
  (.seq (.reg false [0, 3, 4, 5] [⟨some 5, .mv (.c (.int .i64 0)), none, 0, []⟩])
  (.seq (.seq (.reg false [0, 3, 4, 5, 12] [⟨some 11, .fad 1 (.t 3), none, 0, []⟩,
    ⟨some 12, .load none (.t 11), none, 0, []⟩])
  (.block 0 (.seq (.reg false [0, 3, 4, 5, 12, 13] [⟨some 14, .bin .eql .num (.t 12) (.c (.int .i64 1)), none, 0, []⟩,
    ⟨some 13, .mv (.t 14), none, 0, []⟩])
  (.cond (.t 13) (.seq (.reg false [0, 3, 4, 6, 7] [⟨some 16, .fad 6 (.t 3), none, 0, []⟩,
    ⟨some 17, .load none (.t 16), none, 0, []⟩,
    ⟨some 18, .call (.c .un) [(.t 17)], none, 0, []⟩,
    ⟨some 15, .mv (.t 18), none, 0, []⟩,
    ⟨some 19, .ext 0 (.t 15), none, 0, []⟩,
    ⟨some 20, .ext 1 (.t 15), none, 0, []⟩,
    ⟨some 6, .alloc [.int .i64 0, .int .i64 0, .int .i64 0, .int .i64 0], none, 0, []⟩,
    ⟨none, .store 4 (.t 6) (.t 19), none, 0, []⟩,
    ⟨some 7, .mv (.t 20), none, 0, []⟩])
  (.seq (.reg false [0, 3, 4, 6] [⟨some 21, .mv (.t 7), none, 0, []⟩,
    ⟨some 22, .call (.f 216) [(.t 21)], none, 0, []⟩])
  (.reg false [0, 3, 4, 5] [⟨some 24, .mv (.t 0), none, 0, []⟩,
    ⟨some 25, .load (some 4) (.t 6), none, 0, []⟩,
    ⟨some 26, .call (.c .un) [(.t 25)], none, 0, []⟩,
    ⟨some 23, .mv (.t 26), none, 0, []⟩,
    ⟨some 27, .ext 0 (.t 23), none, 0, []⟩,
    ⟨some 28, .ext 1 (.t 23), none, 0, []⟩,
    ⟨some 29, .nilck (.t 24), none, 0, []⟩,
    ⟨some 30, .fad 5 (.t 29), none, 0, []⟩,
    ⟨none, .store 1 (.t 30) (.t 27), none, 0, []⟩,
    ⟨some 5, .mv (.t 28), none, 0, []⟩])))
  (.seq (.reg false [0, 3, 4, 5, 12, 31] [⟨some 32, .bin .eql .num (.t 12) (.c (.int .i64 2)), none, 0, []⟩,
    ⟨some 31, .mv (.t 32), none, 0, []⟩])
  (.cond (.t 31) (.reg false [0, 3, 4, 5] [⟨some 33, .mv (.t 0), none, 0, []⟩,
    ⟨some 34, .load (some 7) (.t 3), none, 0, []⟩,
    ⟨some 35, .call (.c .un) [(.t 33), (.t 34)], none, 0, []⟩,
    ⟨some 4, .mv (.t 35), none, 0, []⟩])
  (.seq (.reg false [0, 3, 4, 5, 12, 36] [⟨some 37, .bin .eql .num (.t 12) (.c (.int .i64 3)), none, 0, []⟩,
    ⟨some 36, .mv (.t 37), none, 0, []⟩])
  (.cond (.t 36) (.reg false [0, 3, 4, 5] [⟨some 38, .mv (.t 0), none, 0, []⟩,
    ⟨some 39, .load (some 7) (.t 3), none, 0, []⟩,
    ⟨some 40, .call (.c .un) [(.t 38), (.t 39)], none, 0, []⟩])
  (.seq (.reg false [0, 3, 4, 5, 12, 41] [⟨some 42, .bin .eql .num (.t 12) (.c (.int .i64 4)), none, 0, []⟩,
    ⟨some 41, .mv (.t 42), none, 0, []⟩])
  (.cond (.t 41) (.seq (.reg false [0, 3, 4, 8, 9] [⟨some 44, .fad 6 (.t 3), none, 0, []⟩,
    ⟨some 45, .load none (.t 44), none, 0, []⟩,
    ⟨some 46, .call (.c .un) [(.t 45)], none, 0, []⟩,
    ⟨some 43, .mv (.t 46), none, 0, []⟩,
    ⟨some 47, .ext 0 (.t 43), none, 0, []⟩,
    ⟨some 48, .ext 1 (.t 43), none, 0, []⟩,
    ⟨some 8, .alloc [.int .i64 0, .int .i64 0, .int .i64 0, .int .i64 0, .bool false, .int .i64 0, .int .i64 0, .sl none 0 0 0], none, 0, []⟩,
    ⟨none, .store 8 (.t 8) (.t 47), none, 0, []⟩,
    ⟨some 9, .mv (.t 48), none, 0, []⟩])
  (.seq (.reg false [0, 3, 4, 8] [⟨some 49, .mv (.t 9), none, 0, []⟩,
    ⟨some 50, .call (.f 216) [(.t 49)], none, 0, []⟩])
  (.reg true [0, 3, 4, 5] [⟨some 51, .mv (.t 0), none, 0, []⟩,
    ⟨some 52, .nilck (.t 51), none, 1, []⟩,
    ⟨some 53, .fad 5 (.t 52), none, 2, []⟩,
    ⟨some 54, .load none (.t 53), none, 3, []⟩,
    ⟨some 55, .fad 0 (.t 8), none, 4, []⟩,
    ⟨some 56, .load none (.t 55), none, 5, []⟩,
    ⟨some 57, .fad 1 (.t 8), none, 6, []⟩,
    ⟨some 58, .load none (.t 57), none, 7, []⟩,
    ⟨some 59, .fad 2 (.t 8), none, 8, []⟩,
    ⟨some 60, .load none (.t 59), none, 9, []⟩,
    ⟨some 61, .fad 5 (.t 8), none, 10, []⟩,
    ⟨some 62, .load (some 3) (.t 61), none, 11, []⟩,
    ⟨some 63, .call (.c .un) [(.t 54), (.t 56), (.t 58), (.t 60), (.t 62)], none, 12, []⟩,
    ⟨some 5, .mv (.t 63), none, 13, []⟩])))
  (.seq (.reg false [0, 3, 4, 5, 12, 64] [⟨some 65, .bin .eql .num (.t 12) (.c (.int .i64 5)), none, 0, []⟩,
    ⟨some 64, .mv (.t 65), none, 0, []⟩])
  (.cond (.t 64) (.reg false [0, 3, 4, 5] [⟨some 66, .mv (.t 0), none, 0, []⟩,
    ⟨some 67, .load (some 7) (.t 3), none, 0, []⟩,
    ⟨some 68, .call (.c .un) [(.t 66), (.t 67)], none, 0, []⟩])
  (.seq (.reg false [0, 3, 4, 5, 69] [⟨some 70, .bin .eql .num (.t 12) (.c (.int .i64 6)), none, 0, []⟩,
    ⟨some 69, .mv (.t 70), none, 0, []⟩])
  (.cond (.t 69) (.seq (.reg false [0, 3, 4, 10] [⟨some 10, .alloc [.int .i64 0, .int .i64 0, .sl none 0 0 0], none, 0, []⟩])
  (.seq (.reg false [0, 3, 4, 5, 10] [⟨some 72, .mv (.t 0), none, 0, []⟩,
    ⟨some 73, .nilck (.t 72), none, 0, []⟩,
    ⟨some 74, .fad 5 (.t 73), none, 0, []⟩,
    ⟨some 75, .load none (.t 74), none, 0, []⟩,
    ⟨some 76, .call (.c .un) [(.t 75)], none, 0, []⟩,
    ⟨some 71, .mv (.t 76), none, 0, []⟩,
    ⟨some 77, .ext 0 (.t 71), none, 0, []⟩,
    ⟨some 78, .ext 1 (.t 71), none, 0, []⟩,
    ⟨none, .store 3 (.t 10) (.t 77), none, 0, []⟩,
    ⟨some 5, .mv (.t 78), none, 0, []⟩])
  (.reg true [0, 3, 4, 5] [⟨some 79, .mv (.t 0), none, 0, []⟩,
    ⟨some 80, .mv (.t 0), none, 1, []⟩,
    ⟨some 81, .nilck (.t 80), none, 2, []⟩,
    ⟨some 82, .fad 6 (.t 81), none, 3, []⟩,
    ⟨some 83, .load none (.t 82), none, 4, []⟩,
    ⟨some 84, .load (some 3) (.t 10), none, 5, []⟩,
    ⟨some 85, .bslice 3 [.int .i64 0, .int .i64 0, .sl none 0 0 0] 1 [(0, (.t 84))], none, 6, []⟩,
    ⟨some 86, .append 3 40 (.t 83) (.t 85), none, 7, []⟩,
    ⟨some 87, .nilck (.t 79), none, 8, []⟩,
    ⟨some 88, .fad 6 (.t 87), none, 9, []⟩,
    ⟨none, .store 1 (.t 88) (.t 86), none, 10, []⟩])))
  (.skip)))))))))))))))
  (.seq (.reg false [0, 3, 4] [⟨some 89, .mv (.t 5), none, 0, []⟩,
    ⟨some 90, .call (.f 216) [(.t 89)], none, 0, []⟩])
  (.reg true [] [⟨some 91, .mv (.t 0), none, 0, []⟩,
    ⟨some 92, .nilck (.t 91), none, 1, []⟩,
    ⟨some 93, .fad 0 (.t 92), none, 2, []⟩,
    ⟨some 94, .load (some 7) (.t 3), none, 3, []⟩,
    ⟨some 95, .mv (.t 4), none, 4, []⟩,
    ⟨some 96, .call (.f 205) [(.t 93), (.t 94), (.t 95)], none, 5, []⟩])))))⟩

/-- slices.Sort[[]int,int] -/
def slices_Sort_int_int : AFun := ⟨1, 11, true, [],
  .seq (.reg false [0, 2] [⟨some 3, .mv (.t 0), none, 0, []⟩,
    ⟨some 4, .len none (.t 3), none, 0, []⟩,
    ⟨some 2, .mv (.t 4), none, 0, []⟩])
  (.reg false [] [⟨some 5, .mv (.t 0), none, 0, []⟩,
    ⟨some 6, .mv (.t 2), none, 0, []⟩,
    ⟨some 7, .mv (.t 2), none, 0, []⟩,
    ⟨some 8, .conv .u64 (.t 7), none, 0, []⟩,
    ⟨some 9, .call (.f 217) [(.t 8)], none, 0, []⟩,
    ⟨some 10, .call (.f 218) [(.t 5), (.c (.int .i64 0)), (.t 6), (.t 9)], none, 0, []⟩])⟩

/-- burin/file.wrong -/
def file_wrong : AFun := ⟨2, 8, true, [],
  .seq (.reg false [1, 4] [⟨some 4, .mv (.t 0), none, 0, []⟩])
  (.cond (.t 4) (.reg false [] [⟨some 5, .mv (.t 1), none, 0, []⟩,
    ⟨some 6, .build [.int .i64 0] [(0, 1, (.t 5))], none, 0, []⟩,
    ⟨some 7, .mkifc 1 (.t 6), none, 0, []⟩,
    ⟨none, .pan (.t 7), none, 0, []⟩])
  (.skip))⟩

def file_reader_segments_1_l1 : Cd := .seq (.reg false [0, 1, 13, 14, 15, 16] [⟨some 16, .bin .lss .num (.t 15) (.t 14), none, 0, []⟩])
  (.seq (.cond (.t 16) (.skip)
  (.exit 0))
  (.seq (.block 1 (.seq (.reg false [0, 1, 4, 13, 14, 15] [⟨some 17, .iad none 8 (.t 13) (.t 15), none, 0, []⟩,
    ⟨some 18, .load (some 8) (.t 17), none, 0, []⟩,
    ⟨some 4, .alloc [.int .i64 0, .int .i64 0, .int .i64 0, .sl none 0 0 0, .sl none 0 0 0, .bool false, .sl none 0 0 0, .int .i64 0], none, 0, []⟩,
    ⟨none, .store 8 (.t 4) (.t 18), none, 0, []⟩])
  (.seq (.reg false [0, 1, 4, 13, 14, 15] [⟨some 19, .load none (.t 1), none, 0, []⟩,
    ⟨some 20, .fad 7 (.t 4), none, 0, []⟩,
    ⟨some 21, .load none (.t 20), none, 0, []⟩,
    ⟨some 22, .call (.f 219) [(.t 19), (.t 21)], none, 0, []⟩,
    ⟨some 23, .fad 0 (.t 4), none, 0, []⟩,
    ⟨some 24, .fad 6 (.t 23), none, 0, []⟩,
    ⟨none, .store 1 (.t 24) (.t 22), none, 0, []⟩])
  (.seq (.reg false [0, 1, 13, 14, 15, 29] [⟨some 25, .mv (.t 0), none, 0, []⟩,
    ⟨some 26, .fad 0 (.t 4), none, 0, []⟩,
    ⟨some 27, .load (some 7) (.t 26), none, 0, []⟩,
    ⟨some 28, .yc (.t 25) [(.t 27)], none, 0, []⟩,
    ⟨some 29, .un .not (.t 28), none, 0, []⟩])
  (.cond (.t 29) (.ret)
  (.skip))))))
  (.reg false [0, 1, 13, 14, 15] [⟨some 30, .bin .add .num (.t 15) (.c (.int .i64 1)), none, 0, []⟩,
    ⟨some 15, .mv (.t 30), none, 0, []⟩])))
def file_reader_segments_1_l0 : Cd := .seq (.seq (.reg false [0, 1, 31] [⟨some 31, .mv (.t 5), none, 0, []⟩])
  (.cond (.t 31) (.skip)
  (.exit 2)))
  (.block 3 (.seq (.reg false [0, 1, 6, 7] [⟨some 33, .load none (.t 1), none, 0, []⟩,
    ⟨some 34, .call (.f 220) [(.t 33)], none, 0, []⟩,
    ⟨some 32, .mv (.t 34), none, 0, []⟩,
    ⟨some 35, .ext 0 (.t 32), none, 0, []⟩,
    ⟨some 36, .ext 1 (.t 32), none, 0, []⟩,
    ⟨some 6, .alloc [.int .i64 0, .int .i64 0, .int .i64 0, .sl none 0 0 0, .sl none 0 0 0, .bool false, .sl none 0 0 0], none, 0, []⟩,
    ⟨none, .store 7 (.t 6) (.t 35), none, 0, []⟩,
    ⟨some 7, .mv (.t 36), none, 0, []⟩])
  (.seq (.reg false [0, 1, 6] [⟨some 37, .load none (.t 1), none, 0, []⟩,
    ⟨some 38, .mv (.t 7), none, 0, []⟩,
    ⟨some 39, .call (.f 219) [(.t 37), (.t 38)], none, 0, []⟩,
    ⟨some 40, .fad 6 (.t 6), none, 0, []⟩,
    ⟨none, .store 1 (.t 40) (.t 39), none, 0, []⟩])
  (.reg false [0, 1, 5] [⟨some 41, .mv (.t 0), none, 0, []⟩,
    ⟨some 42, .load (some 7) (.t 6), none, 0, []⟩,
    ⟨some 43, .yc (.t 41) [(.t 42)], none, 0, []⟩,
    ⟨some 44, .mv (.t 43), none, 0, []⟩,
    ⟨some 45, .fad 1 (.t 6), some (44, true), 0, []⟩,
    ⟨some 46, .load none (.t 45), some (44, true), 0, []⟩,
    ⟨some 47, .bin .neq .num (.t 46) (.c (.int .i64 7)), some (44, true), 0, []⟩,
    ⟨some 48, .pick (.t 44) (.t 47) (.c (.bool false)), none, 0, []⟩,
    ⟨some 5, .mv (.t 48), none, 0, []⟩]))))
/-- (*burin/file.reader).segments$1 -/
def file_reader_segments_1 : AFun := ⟨2, 49, true, [],
  .seq (.seq (.reg false [0, 1, 11] [⟨some 8, .load none (.t 1), none, 0, []⟩,
    ⟨some 9, .nilck (.t 8), none, 0, []⟩,
    ⟨some 10, .fad 2 (.t 9), none, 0, []⟩,
    ⟨some 11, .load none (.t 10), none, 0, []⟩])
  (.cond (.t 11) (.seq (.seq (.reg false [0, 1, 13, 14, 15] [⟨some 12, .load none (.t 1), none, 0, []⟩,
    ⟨some 13, .call (.f 221) [(.t 12)], none, 0, []⟩,
    ⟨some 14, .len none (.t 13), none, 0, []⟩,
    ⟨some 15, .mv (.c (.int .i64 0)), none, 0, []⟩])
  (.block 0 (.loop [0, 1, 13, 14, 15] file_reader_segments_1_l1)))
  (.ret))
  (.skip)))
  (.seq (.reg false [0, 1, 5] [⟨some 5, .mv (.c (.bool true)), none, 0, []⟩])
  (.block 2 (.loop [0, 1, 5] file_reader_segments_1_l0)))⟩

/-- burin/file.need -/
def file_need : AFun := ⟨1, 6, true, [],
  .reg false [] [⟨some 2, .mv (.t 0), none, 0, []⟩,
    ⟨some 3, .bin .neq .num (.t 2) (.c (.int .i64 0)), none, 0, []⟩,
    ⟨some 4, .mv (.t 0), none, 0, []⟩,
    ⟨some 5, .call (.f 214) [(.t 3), (.t 4)], none, 0, []⟩]⟩

def slices_pdqsortOrdered_int_l0 : Cd := .block 1 (.seq (.reg false [0, 1, 2, 3, 8, 9, 10] [⟨some 19, .mv (.t 2), none, 0, []⟩,
    ⟨some 20, .mv (.t 1), none, 0, []⟩,
    ⟨some 21, .bin .sub .num (.t 19) (.t 20), none, 0, []⟩,
    ⟨some 10, .mv (.t 21), none, 0, []⟩])
  (.seq (.seq (.reg false [0, 1, 2, 3, 8, 9, 10, 23] [⟨some 22, .mv (.t 10), none, 0, []⟩,
    ⟨some 23, .bin .leq .num (.t 22) (.c (.int .i64 12)), none, 0, []⟩])
  (.cond (.t 23) (.seq (.reg false [] [⟨some 24, .mv (.t 0), none, 0, []⟩,
    ⟨some 25, .mv (.t 1), none, 0, []⟩,
    ⟨some 26, .mv (.t 2), none, 0, []⟩,
    ⟨some 27, .call (.f 223) [(.t 24), (.t 25), (.t 26)], none, 0, []⟩])
  (.ret))
  (.skip)))
  (.seq (.seq (.reg false [0, 1, 2, 3, 8, 9, 10, 29] [⟨some 28, .mv (.t 3), none, 0, []⟩,
    ⟨some 29, .bin .eql .num (.t 28) (.c (.int .i64 0)), none, 0, []⟩])
  (.cond (.t 29) (.seq (.reg false [] [⟨some 30, .mv (.t 0), none, 0, []⟩,
    ⟨some 31, .mv (.t 1), none, 0, []⟩,
    ⟨some 32, .mv (.t 2), none, 0, []⟩,
    ⟨some 33, .call (.c .un) [(.t 30), (.t 31), (.t 32)], none, 0, []⟩])
  (.ret))
  (.skip)))
  (.seq (.seq (.reg false [0, 1, 2, 3, 8, 9, 10, 35] [⟨some 34, .mv (.t 8), none, 0, []⟩,
    ⟨some 35, .un .not (.t 34), none, 0, []⟩])
  (.cond (.t 35) (.seq (.reg false [0, 1, 2, 3, 8, 9, 10] [⟨some 36, .mv (.t 0), none, 0, []⟩,
    ⟨some 37, .mv (.t 1), none, 0, []⟩,
    ⟨some 38, .mv (.t 2), none, 0, []⟩,
    ⟨some 39, .call (.c .un) [(.t 36), (.t 37), (.t 38)], none, 0, []⟩])
  (.reg false [0, 1, 2, 3, 8, 9, 10] [⟨some 40, .mv (.t 3), none, 0, []⟩,
    ⟨some 41, .bin .sub .num (.t 40) (.c (.int .i64 1)), none, 0, []⟩,
    ⟨some 3, .mv (.t 41), none, 0, []⟩]))
  (.skip)))
  (.seq (.reg false [0, 1, 2, 3, 8, 9, 10, 11, 12] [⟨some 43, .mv (.t 0), none, 0, []⟩,
    ⟨some 44, .mv (.t 1), none, 0, []⟩,
    ⟨some 45, .mv (.t 2), none, 0, []⟩,
    ⟨some 46, .call (.c .un) [(.t 43), (.t 44), (.t 45)], none, 0, []⟩,
    ⟨some 42, .mv (.t 46), none, 0, []⟩,
    ⟨some 47, .ext 0 (.t 42), none, 0, []⟩,
    ⟨some 48, .ext 1 (.t 42), none, 0, []⟩,
    ⟨some 11, .mv (.t 47), none, 0, []⟩,
    ⟨some 12, .mv (.t 48), none, 0, []⟩])
  (.seq (.seq (.reg false [0, 1, 2, 3, 8, 9, 10, 11, 12, 50] [⟨some 49, .mv (.t 12), none, 0, []⟩,
    ⟨some 50, .bin .eql .num (.t 49) (.c (.int .i64 2)), none, 0, []⟩])
  (.cond (.t 50) (.seq (.reg false [0, 1, 2, 3, 8, 9, 10, 11] [⟨some 51, .mv (.t 0), none, 0, []⟩,
    ⟨some 52, .mv (.t 1), none, 0, []⟩,
    ⟨some 53, .mv (.t 2), none, 0, []⟩,
    ⟨some 54, .call (.c .un) [(.t 51), (.t 52), (.t 53)], none, 0, []⟩])
  (.seq (.reg false [0, 1, 2, 3, 8, 9, 10, 11] [⟨some 55, .mv (.t 2), none, 0, []⟩,
    ⟨some 56, .bin .sub .num (.t 55) (.c (.int .i64 1)), none, 0, []⟩,
    ⟨some 57, .mv (.t 11), none, 0, []⟩,
    ⟨some 58, .mv (.t 1), none, 0, []⟩,
    ⟨some 59, .bin .sub .num (.t 57) (.t 58), none, 0, []⟩,
    ⟨some 60, .bin .sub .num (.t 56) (.t 59), none, 0, []⟩,
    ⟨some 11, .mv (.t 60), none, 0, []⟩])
  (.reg false [0, 1, 2, 3, 8, 9, 10, 11, 12] [⟨some 12, .mv (.c (.int .i64 1)), none, 0, []⟩])))
  (.skip)))
  (.seq (.seq (.reg false [0, 1, 2, 3, 8, 9, 10, 11, 68] [⟨some 61, .mv (.t 8), none, 0, []⟩,
    ⟨some 62, .mv (.t 61), none, 0, []⟩,
    ⟨some 63, .mv (.t 9), some (62, true), 0, []⟩,
    ⟨some 64, .pick (.t 62) (.t 63) (.c (.bool false)), none, 0, []⟩,
    ⟨some 65, .mv (.t 64), none, 0, []⟩,
    ⟨some 66, .mv (.t 12), some (65, true), 0, []⟩,
    ⟨some 67, .bin .eql .num (.t 66) (.c (.int .i64 1)), some (65, true), 0, []⟩,
    ⟨some 68, .pick (.t 65) (.t 67) (.c (.bool false)), none, 0, []⟩])
  (.cond (.t 68) (.seq (.reg false [0, 1, 2, 3, 8, 9, 10, 11, 72] [⟨some 69, .mv (.t 0), none, 0, []⟩,
    ⟨some 70, .mv (.t 1), none, 0, []⟩,
    ⟨some 71, .mv (.t 2), none, 0, []⟩,
    ⟨some 72, .call (.c .un) [(.t 69), (.t 70), (.t 71)], none, 0, []⟩])
  (.cond (.t 72) (.ret)
  (.skip)))
  (.skip)))
  (.seq (.seq (.reg true [0, 1, 2, 3, 8, 9, 10, 11, 87] [⟨some 73, .mv (.t 1), none, 0, []⟩,
    ⟨some 74, .bin .gtr .num (.t 73) (.c (.int .i64 0)), none, 1, []⟩,
    ⟨some 75, .mv (.t 74), none, 2, []⟩,
    ⟨some 76, .mv (.t 0), some (75, true), 3, []⟩,
    ⟨some 77, .mv (.t 1), some (75, true), 4, []⟩,
    ⟨some 78, .bin .sub .num (.t 77) (.c (.int .i64 1)), some (75, true), 5, []⟩,
    ⟨some 79, .iad none 1 (.t 76) (.t 78), some (75, true), 6, []⟩,
    ⟨some 80, .load none (.t 79), some (75, true), 7, []⟩,
    ⟨some 81, .mv (.t 0), some (75, true), 8, []⟩,
    ⟨some 82, .mv (.t 11), some (75, true), 9, []⟩,
    ⟨some 83, .iad none 1 (.t 81) (.t 82), some (75, true), 10, []⟩,
    ⟨some 84, .load none (.t 83), some (75, true), 11, []⟩,
    ⟨some 85, .call (.f 222) [(.t 80), (.t 84)], some (75, true), 12, []⟩,
    ⟨some 86, .un .not (.t 85), some (75, true), 13, []⟩,
    ⟨some 87, .pick (.t 75) (.t 86) (.c (.bool false)), none, 14, []⟩])
  (.cond (.t 87) (.seq (.reg false [0, 2, 3, 8, 9, 13] [⟨some 88, .mv (.t 0), none, 0, []⟩,
    ⟨some 89, .mv (.t 1), none, 0, []⟩,
    ⟨some 90, .mv (.t 2), none, 0, []⟩,
    ⟨some 91, .mv (.t 11), none, 0, []⟩,
    ⟨some 92, .call (.c .un) [(.t 88), (.t 89), (.t 90), (.t 91)], none, 0, []⟩,
    ⟨some 13, .mv (.t 92), none, 0, []⟩])
  (.seq (.reg false [0, 1, 2, 3, 8, 9] [⟨some 93, .mv (.t 13), none, 0, []⟩,
    ⟨some 1, .mv (.t 93), none, 0, []⟩])
  (.exit 1)))
  (.skip)))
  (.seq (.reg false [0, 1, 2, 3, 10, 14, 15] [⟨some 95, .mv (.t 0), none, 0, []⟩,
    ⟨some 96, .mv (.t 1), none, 0, []⟩,
    ⟨some 97, .mv (.t 2), none, 0, []⟩,
    ⟨some 98, .mv (.t 11), none, 0, []⟩,
    ⟨some 99, .call (.c .un) [(.t 95), (.t 96), (.t 97), (.t 98)], none, 0, []⟩,
    ⟨some 94, .mv (.t 99), none, 0, []⟩,
    ⟨some 100, .ext 0 (.t 94), none, 0, []⟩,
    ⟨some 101, .ext 1 (.t 94), none, 0, []⟩,
    ⟨some 14, .mv (.t 100), none, 0, []⟩,
    ⟨some 15, .mv (.t 101), none, 0, []⟩])
  (.seq (.reg false [0, 1, 2, 3, 9, 10, 14] [⟨some 102, .mv (.t 15), none, 0, []⟩,
    ⟨some 9, .mv (.t 102), none, 0, []⟩])
  (.seq (.reg false [0, 1, 2, 3, 9, 10, 14, 16, 17] [⟨some 103, .mv (.t 14), none, 0, []⟩,
    ⟨some 104, .mv (.t 1), none, 0, []⟩,
    ⟨some 105, .bin .sub .num (.t 103) (.t 104), none, 0, []⟩,
    ⟨some 106, .mv (.t 2), none, 0, []⟩,
    ⟨some 107, .mv (.t 14), none, 0, []⟩,
    ⟨some 108, .bin .sub .num (.t 106) (.t 107), none, 0, []⟩,
    ⟨some 16, .mv (.t 105), none, 0, []⟩,
    ⟨some 17, .mv (.t 108), none, 0, []⟩])
  (.seq (.reg false [0, 1, 2, 3, 9, 14, 16, 17, 18] [⟨some 109, .mv (.t 10), none, 0, []⟩,
    ⟨some 110, .bin .quo .num (.t 109) (.c (.int .i64 8)), none, 0, []⟩,
    ⟨some 18, .mv (.t 110), none, 0, []⟩])
  (.seq (.reg false [0, 1, 2, 3, 9, 14, 16, 17, 18, 113] [⟨some 111, .mv (.t 16), none, 0, []⟩,
    ⟨some 112, .mv (.t 17), none, 0, []⟩,
    ⟨some 113, .bin .lss .num (.t 111) (.t 112), none, 0, []⟩])
  (.cond (.t 113) (.seq (.reg false [0, 1, 2, 3, 8, 9, 14] [⟨some 114, .mv (.t 16), none, 0, []⟩,
    ⟨some 115, .mv (.t 18), none, 0, []⟩,
    ⟨some 116, .bin .geq .num (.t 114) (.t 115), none, 0, []⟩,
    ⟨some 8, .mv (.t 116), none, 0, []⟩])
  (.seq (.reg false [0, 2, 3, 8, 9, 14] [⟨some 117, .mv (.t 0), none, 0, []⟩,
    ⟨some 118, .mv (.t 1), none, 0, []⟩,
    ⟨some 119, .mv (.t 14), none, 0, []⟩,
    ⟨some 120, .mv (.t 3), none, 0, []⟩,
    ⟨some 121, .call (.f 218) [(.t 117), (.t 118), (.t 119), (.t 120)], none, 0, []⟩])
  (.reg false [0, 1, 2, 3, 8, 9] [⟨some 122, .mv (.t 14), none, 0, []⟩,
    ⟨some 123, .bin .add .num (.t 122) (.c (.int .i64 1)), none, 0, []⟩,
    ⟨some 1, .mv (.t 123), none, 0, []⟩])))
  (.seq (.reg false [0, 1, 2, 3, 8, 9, 14] [⟨some 124, .mv (.t 17), none, 0, []⟩,
    ⟨some 125, .mv (.t 18), none, 0, []⟩,
    ⟨some 126, .bin .geq .num (.t 124) (.t 125), none, 0, []⟩,
    ⟨some 8, .mv (.t 126), none, 0, []⟩])
  (.seq (.reg false [0, 1, 3, 8, 9, 14] [⟨some 127, .mv (.t 0), none, 0, []⟩,
    ⟨some 128, .mv (.t 14), none, 0, []⟩,
    ⟨some 129, .bin .add .num (.t 128) (.c (.int .i64 1)), none, 0, []⟩,
    ⟨some 130, .mv (.t 2), none, 0, []⟩,
    ⟨some 131, .mv (.t 3), none, 0, []⟩,
    ⟨some 132, .call (.f 218) [(.t 127), (.t 129), (.t 130), (.t 131)], none, 0, []⟩])
  (.reg false [0, 1, 2, 3, 8, 9] [⟨some 133, .mv (.t 14), none, 0, []⟩,
    ⟨some 2, .mv (.t 133), none, 0, []⟩])))))))))))))))))
/-- slices.pdqsortOrdered[int] -/
def slices_pdqsortOrdered_int : AFun := ⟨4, 134, true, [],
  .seq (.reg false [0, 1, 2, 3, 8] [⟨some 8, .mv (.c (.bool true)), none, 0, []⟩])
  (.seq (.reg false [0, 1, 2, 3, 8, 9] [⟨some 9, .mv (.c (.bool true)), none, 0, []⟩])
  (.block 0 (.loop [0, 1, 2, 3, 8, 9] slices_pdqsortOrdered_int_l0)))⟩

/-- math/bits.Len -/
def math_bits_Len : AFun := ⟨1, 8, true, [.t 2],
  .seq (.reg false [0] [⟨some 2, .mv (.c (.int .i64 0)), none, 0, []⟩])
  (.seq (.cond (.c (.bool false)) (.seq (.reg false [2] [⟨some 3, .mv (.t 0), none, 0, []⟩,
    ⟨some 4, .conv .u32 (.t 3), none, 0, []⟩,
    ⟨some 5, .call (.f 224) [(.t 4)], none, 0, []⟩,
    ⟨some 2, .mv (.t 5), none, 0, []⟩])
  (.ret))
  (.skip))
  (.seq (.reg false [2] [⟨some 6, .mv (.t 0), none, 0, []⟩,
    ⟨some 7, .call (.f 112) [(.t 6)], none, 0, []⟩,
    ⟨some 2, .mv (.t 7), none, 0, []⟩])
  (.ret)))⟩

def file_reader_headers_l0 : Cd := .block 1 (.seq (.reg false [0, 3, 4, 5] [⟨some 7, .mv (.t 0), none, 0, []⟩,
    ⟨some 8, .call (.f 220) [(.t 7)], none, 0, []⟩,
    ⟨some 6, .mv (.t 8), none, 0, []⟩,
    ⟨some 9, .ext 0 (.t 6), none, 0, []⟩,
    ⟨some 10, .ext 1 (.t 6), none, 0, []⟩,
    ⟨some 4, .alloc [.int .i64 0, .int .i64 0, .int .i64 0, .sl none 0 0 0, .sl none 0 0 0, .bool false, .sl none 0 0 0], none, 0, []⟩,
    ⟨none, .store 7 (.t 4) (.t 9), none, 0, []⟩,
    ⟨some 5, .mv (.t 10), none, 0, []⟩])
  (.seq (.reg false [0, 3, 4] [⟨some 11, .mv (.t 3), none, 0, []⟩,
    ⟨some 12, .load (some 7) (.t 4), none, 0, []⟩,
    ⟨some 13, .mv (.t 5), none, 0, []⟩,
    ⟨some 14, .build [.int .i64 0, .int .i64 0, .int .i64 0, .sl none 0 0 0, .sl none 0 0 0, .bool false, .sl none 0 0 0, .int .i64 0] [(0, 7, (.t 12)), (7, 1, (.t 13))], none, 0, []⟩,
    ⟨some 15, .bslice 8 [.int .i64 0, .int .i64 0, .int .i64 0, .sl none 0 0 0, .sl none 0 0 0, .bool false, .sl none 0 0 0, .int .i64 0] 1 [(0, (.t 14))], none, 0, []⟩,
    ⟨some 16, .append 8 112 (.t 11) (.t 15), none, 0, []⟩,
    ⟨some 3, .mv (.t 16), none, 0, []⟩])
  (.seq (.reg false [0, 3, 19] [⟨some 17, .fad 1 (.t 4), none, 0, []⟩,
    ⟨some 18, .load none (.t 17), none, 0, []⟩,
    ⟨some 19, .bin .eql .num (.t 18) (.c (.int .i64 7)), none, 0, []⟩])
  (.cond (.t 19) (.seq (.reg false [2] [⟨some 20, .mv (.t 3), none, 0, []⟩,
    ⟨some 2, .mv (.t 20), none, 0, []⟩])
  (.ret))
  (.skip)))))
/-- (*burin/file.reader).headers -/
def file_reader_headers : AFun := ⟨1, 21, true, [.t 2],
  .seq (.reg false [0] [⟨some 2, .mv (.c (.sl none 0 0 0)), none, 0, []⟩])
  (.seq (.reg false [0, 3] [⟨some 3, .mv (.c (.sl none 0 0 0)), none, 0, []⟩])
  (.block 0 (.loop [0, 3] file_reader_headers_l0)))⟩

/-- (*burin/file.reader).data -/
def file_reader_data : AFun := ⟨2, 42, true, [.t 4],
  .seq (.reg false [0, 1] [⟨some 4, .mv (.c (.sl none 0 0 0)), none, 0, []⟩])
  (.seq (.reg true [0, 1] [⟨some 5, .mv (.t 1), none, 0, []⟩,
    ⟨some 6, .mv (.t 0), none, 1, []⟩,
    ⟨some 7, .nilck (.t 6), none, 2, []⟩,
    ⟨some 8, .fad 0 (.t 7), none, 3, []⟩,
    ⟨some 9, .load none (.t 8), none, 4, []⟩,
    ⟨some 10, .len none (.t 9), none, 5, []⟩,
    ⟨some 11, .mv (.t 0), none, 6, []⟩,
    ⟨some 12, .nilck (.t 11), none, 7, []⟩,
    ⟨some 13, .fad 1 (.t 12), none, 8, []⟩,
    ⟨some 14, .load none (.t 13), none, 9, []⟩,
    ⟨some 15, .bin .sub .num (.t 10) (.t 14), none, 10, []⟩,
    ⟨some 16, .bin .gtr .num (.t 5) (.t 15), none, 11, []⟩,
    ⟨some 17, .call (.f 214) [(.t 16), (.c (.int .i64 163))], none, 12, []⟩])
  (.seq (.reg false [0, 1] [⟨some 18, .mv (.t 0), none, 0, []⟩,
    ⟨some 19, .nilck (.t 18), none, 0, []⟩,
    ⟨some 20, .fad 1 (.t 19), none, 0, []⟩,
    ⟨some 21, .load none (.t 20), none, 0, []⟩,
    ⟨some 22, .mv (.t 1), none, 0, []⟩,
    ⟨some 23, .bin .add .num (.t 21) (.t 22), none, 0, []⟩,
    ⟨some 24, .nilck (.t 18), none, 0, []⟩,
    ⟨some 25, .fad 1 (.t 24), none, 0, []⟩,
    ⟨none, .store 1 (.t 25) (.t 23), none, 0, []⟩])
  (.seq (.reg true [4] [⟨some 26, .mv (.t 0), none, 0, []⟩,
    ⟨some 27, .nilck (.t 26), none, 1, []⟩,
    ⟨some 28, .fad 0 (.t 27), none, 2, []⟩,
    ⟨some 29, .load none (.t 28), none, 3, []⟩,
    ⟨some 30, .mv (.t 0), none, 4, []⟩,
    ⟨some 31, .nilck (.t 30), none, 5, []⟩,
    ⟨some 32, .fad 1 (.t 31), none, 6, []⟩,
    ⟨some 33, .load none (.t 32), none, 7, []⟩,
    ⟨some 34, .mv (.t 1), none, 8, []⟩,
    ⟨some 35, .bin .sub .num (.t 33) (.t 34), none, 9, []⟩,
    ⟨some 36, .mv (.t 0), none, 10, []⟩,
    ⟨some 37, .nilck (.t 36), none, 11, []⟩,
    ⟨some 38, .fad 1 (.t 37), none, 12, []⟩,
    ⟨some 39, .load none (.t 38), none, 13, []⟩,
    ⟨some 40, .slice 1 (.t 29) (some (.t 35)) (some (.t 39)) none, none, 14, []⟩,
    ⟨some 41, .call (.f 225) [(.t 40)], none, 15, []⟩,
    ⟨some 4, .mv (.t 41), none, 16, []⟩])
  (.ret))))⟩

/-- (*burin/file.reader).header -/
def file_reader_header : AFun := ⟨1, 36, true, [.cell 2 (some 7), .t 3],
  .seq (.reg false [0, 2] [⟨some 2, .alloc [.int .i64 0, .int .i64 0, .int .i64 0, .sl none 0 0 0, .sl none 0 0 0, .bool false, .sl none 0 0 0], none, 0, []⟩,
    ⟨some 3, .mv (.c (.int .i64 0)), none, 0, []⟩])
  (.seq (.reg true [0, 2, 4, 5, 6, 7] [⟨some 9, .mv (.t 0), none, 0, []⟩,
    ⟨some 10, .nilck (.t 9), none, 1, []⟩,
    ⟨some 11, .fad 0 (.t 10), none, 2, []⟩,
    ⟨some 12, .load none (.t 11), none, 3, []⟩,
    ⟨some 13, .mv (.t 0), none, 4, []⟩,
    ⟨some 14, .nilck (.t 13), none, 5, []⟩,
    ⟨some 15, .fad 1 (.t 14), none, 6, []⟩,
    ⟨some 16, .load none (.t 15), none, 7, []⟩,
    ⟨some 4, .alloc [.int .i64 0, .int .i64 0, .int .i64 0, .sl none 0 0 0, .sl none 0 0 0, .bool false, .sl none 0 0 0], none, 14, []⟩,
    ⟨some 17, .call (.f 163) [(.t 12), (.t 16)], none, 8, [14]⟩,
    ⟨some 8, .mv (.t 17), none, 9, []⟩,
    ⟨some 18, .ext 0 (.t 8), none, 10, []⟩,
    ⟨some 19, .ext 1 (.t 8), none, 11, []⟩,
    ⟨some 20, .ext 2 (.t 8), none, 12, []⟩,
    ⟨some 21, .ext 3 (.t 8), none, 13, []⟩,
    ⟨none, .store 7 (.t 4) (.t 18), none, 15, []⟩,
    ⟨some 5, .mv (.t 19), none, 16, []⟩,
    ⟨some 6, .mv (.t 20), none, 17, []⟩,
    ⟨some 7, .mv (.t 21), none, 18, []⟩])
  (.seq (.reg false [0, 2, 4, 5, 6] [⟨some 22, .mv (.t 7), none, 0, []⟩,
    ⟨some 23, .call (.f 216) [(.t 22)], none, 0, []⟩])
  (.seq (.reg true [0, 2, 4, 5, 6] [⟨some 24, .mv (.t 0), none, 0, []⟩,
    ⟨some 25, .nilck (.t 24), none, 1, []⟩,
    ⟨some 26, .fad 3 (.t 25), none, 2, []⟩,
    ⟨some 27, .load (some 7) (.t 4), none, 3, []⟩,
    ⟨some 28, .call (.f 202) [(.t 26), (.t 27)], none, 4, []⟩,
    ⟨some 29, .call (.f 216) [(.t 28)], none, 5, []⟩])
  (.seq (.reg false [2, 4, 5] [⟨some 30, .mv (.t 0), none, 0, []⟩,
    ⟨some 31, .mv (.t 6), none, 0, []⟩,
    ⟨some 32, .nilck (.t 30), none, 0, []⟩,
    ⟨some 33, .fad 1 (.t 32), none, 0, []⟩,
    ⟨none, .store 1 (.t 33) (.t 31), none, 0, []⟩])
  (.seq (.reg false [2, 3] [⟨some 34, .load (some 7) (.t 4), none, 0, []⟩,
    ⟨some 35, .mv (.t 5), none, 0, []⟩,
    ⟨none, .store 7 (.t 2) (.t 34), none, 0, []⟩,
    ⟨some 3, .mv (.t 35), none, 0, []⟩])
  (.ret))))))⟩

def slices_insertionSortOrdered_int_l1 : Cd := .seq (.seq (.reg true [0, 1, 2, 6, 7, 30] [⟨some 16, .mv (.t 7), none, 0, []⟩,
    ⟨some 17, .mv (.t 1), none, 1, []⟩,
    ⟨some 18, .bin .gtr .num (.t 16) (.t 17), none, 2, []⟩,
    ⟨some 19, .mv (.t 18), none, 3, []⟩,
    ⟨some 20, .mv (.t 0), some (19, true), 4, []⟩,
    ⟨some 21, .mv (.t 7), some (19, true), 5, []⟩,
    ⟨some 22, .iad none 1 (.t 20) (.t 21), some (19, true), 6, []⟩,
    ⟨some 23, .load none (.t 22), some (19, true), 7, []⟩,
    ⟨some 24, .mv (.t 0), some (19, true), 8, []⟩,
    ⟨some 25, .mv (.t 7), some (19, true), 9, []⟩,
    ⟨some 26, .bin .sub .num (.t 25) (.c (.int .i64 1)), some (19, true), 10, []⟩,
    ⟨some 27, .iad none 1 (.t 24) (.t 26), some (19, true), 11, []⟩,
    ⟨some 28, .load none (.t 27), some (19, true), 12, []⟩,
    ⟨some 29, .call (.f 222) [(.t 23), (.t 28)], some (19, true), 13, []⟩,
    ⟨some 30, .pick (.t 19) (.t 29) (.c (.bool false)), none, 14, []⟩])
  (.cond (.t 30) (.skip)
  (.exit 2)))
  (.seq (.block 3 (.reg true [0, 1, 2, 6, 7] [⟨some 33, .mv (.t 0), none, 0, []⟩,
    ⟨some 34, .mv (.t 7), none, 1, []⟩,
    ⟨some 35, .mv (.t 0), none, 2, []⟩,
    ⟨some 36, .mv (.t 7), none, 3, []⟩,
    ⟨some 37, .bin .sub .num (.t 36) (.c (.int .i64 1)), none, 4, []⟩,
    ⟨some 38, .mv (.t 0), none, 5, []⟩,
    ⟨some 39, .mv (.t 7), none, 6, []⟩,
    ⟨some 40, .bin .sub .num (.t 39) (.c (.int .i64 1)), none, 7, []⟩,
    ⟨some 41, .iad none 1 (.t 38) (.t 40), none, 8, []⟩,
    ⟨some 42, .load none (.t 41), none, 9, []⟩,
    ⟨some 43, .mv (.t 0), none, 10, []⟩,
    ⟨some 44, .mv (.t 7), none, 11, []⟩,
    ⟨some 45, .iad none 1 (.t 43) (.t 44), none, 12, []⟩,
    ⟨some 46, .load none (.t 45), none, 13, []⟩,
    ⟨some 47, .iad none 1 (.t 33) (.t 34), none, 14, []⟩,
    ⟨none, .store 1 (.t 47) (.t 42), none, 15, []⟩,
    ⟨some 48, .iad none 1 (.t 35) (.t 37), none, 16, []⟩,
    ⟨none, .store 1 (.t 48) (.t 46), none, 17, []⟩]))
  (.reg false [0, 1, 2, 6, 7] [⟨some 31, .mv (.t 7), none, 0, []⟩,
    ⟨some 32, .bin .sub .num (.t 31) (.c (.int .i64 1)), none, 0, []⟩,
    ⟨some 7, .mv (.t 32), none, 0, []⟩]))
def slices_insertionSortOrdered_int_l0 : Cd := .seq (.seq (.reg false [0, 1, 2, 6, 12] [⟨some 10, .mv (.t 6), none, 0, []⟩,
    ⟨some 11, .mv (.t 2), none, 0, []⟩,
    ⟨some 12, .bin .lss .num (.t 10) (.t 11), none, 0, []⟩])
  (.cond (.t 12) (.skip)
  (.exit 0)))
  (.seq (.block 1 (.seq (.reg false [0, 1, 2, 6, 7] [⟨some 15, .mv (.t 6), none, 0, []⟩,
    ⟨some 7, .mv (.t 15), none, 0, []⟩])
  (.block 2 (.loop [0, 1, 2, 6, 7] slices_insertionSortOrdered_int_l1))))
  (.reg false [0, 1, 2, 6] [⟨some 13, .mv (.t 6), none, 0, []⟩,
    ⟨some 14, .bin .add .num (.t 13) (.c (.int .i64 1)), none, 0, []⟩,
    ⟨some 6, .mv (.t 14), none, 0, []⟩]))
/-- slices.insertionSortOrdered[int] -/
def slices_insertionSortOrdered_int : AFun := ⟨3, 49, true, [],
  .seq (.reg false [0, 1, 2, 6] [⟨some 8, .mv (.t 1), none, 0, []⟩,
    ⟨some 9, .bin .add .num (.t 8) (.c (.int .i64 1)), none, 0, []⟩,
    ⟨some 6, .mv (.t 9), none, 0, []⟩])
  (.block 0 (.loop [0, 1, 2, 6] slices_insertionSortOrdered_int_l0))⟩

/-- cmp.Less[int] -/
def cmp_Less_int : AFun := ⟨2, 17, true, [.t 4],
  .seq (.reg false [0, 1] [⟨some 4, .mv (.c (.bool false)), none, 0, []⟩])
  (.seq (.reg false [4] [⟨some 5, .mv (.t 0), none, 0, []⟩,
    ⟨some 6, .call (.f 226) [(.t 5)], none, 0, []⟩,
    ⟨some 7, .mv (.t 6), none, 0, []⟩,
    ⟨some 8, .mv (.t 1), some (7, true), 0, []⟩,
    ⟨some 9, .call (.f 226) [(.t 8)], some (7, true), 0, []⟩,
    ⟨some 10, .un .not (.t 9), some (7, true), 0, []⟩,
    ⟨some 11, .pick (.t 7) (.t 10) (.c (.bool false)), none, 0, []⟩,
    ⟨some 12, .mv (.t 11), none, 0, []⟩,
    ⟨some 13, .mv (.t 0), some (12, false), 0, []⟩,
    ⟨some 14, .mv (.t 1), some (12, false), 0, []⟩,
    ⟨some 15, .bin .lss .num (.t 13) (.t 14), some (12, false), 0, []⟩,
    ⟨some 16, .pick (.t 12) (.c (.bool true)) (.t 15), none, 0, []⟩,
    ⟨some 4, .mv (.t 16), none, 0, []⟩])
  (.ret))⟩

def math_bits_Len32_s0 : ByteArray := ⟨#[0, 1, 2, 2, 3, 3, 3, 3, 4, 4, 4, 4, 4, 4, 4, 4, 5, 5, 5, 5, 5, 5, 5, 5, 5, 5, 5, 5, 5, 5, 5, 5, 6, 6, 6, 6, 6, 6, 6, 6, 6, 6, 6, 6, 6, 6, 6, 6, 6, 6, 6, 6, 6, 6, 6, 6, 6, 6, 6, 6, 6, 6, 6, 6, 7, 7, 7, 7, 7, 7, 7, 7, 7, 7, 7, 7, 7, 7, 7, 7, 7, 7, 7, 7, 7, 7, 7, 7, 7, 7, 7, 7, 7, 7, 7, 7, 7, 7, 7, 7, 7, 7, 7, 7, 7, 7, 7, 7, 7, 7, 7, 7, 7, 7, 7, 7, 7, 7, 7, 7, 7, 7, 7, 7, 7, 7, 7, 7, 8, 8, 8, 8, 8, 8, 8, 8, 8, 8, 8, 8, 8, 8, 8, 8, 8, 8, 8, 8, 8, 8, 8, 8, 8, 8, 8, 8, 8, 8, 8, 8, 8, 8, 8, 8, 8, 8, 8, 8, 8, 8, 8, 8, 8, 8, 8, 8, 8, 8, 8, 8, 8, 8, 8, 8, 8, 8, 8, 8, 8, 8, 8, 8, 8, 8, 8, 8, 8, 8, 8, 8, 8, 8, 8, 8, 8, 8, 8, 8, 8, 8, 8, 8, 8, 8, 8, 8, 8, 8, 8, 8, 8, 8, 8, 8, 8, 8, 8, 8, 8, 8, 8, 8, 8, 8, 8, 8, 8, 8, 8, 8, 8, 8, 8, 8, 8, 8, 8, 8, 8, 8, 8, 8, 8, 8, 8, 8]⟩
/-- math/bits.Len32 -/
def math_bits_Len32 : AFun := ⟨1, 19, true, [.t 2],
  .seq (.reg false [0, 2] [⟨some 2, .mv (.c (.int .i64 0)), none, 0, []⟩])
  (.seq (.seq (.reg false [0, 2, 4] [⟨some 3, .mv (.t 0), none, 0, []⟩,
    ⟨some 4, .bin .geq .num (.t 3) (.c (.int .u32 65536)), none, 0, []⟩])
  (.cond (.t 4) (.seq (.reg false [0] [⟨some 5, .mv (.t 0), none, 0, []⟩,
    ⟨some 6, .bin .shr .num (.t 5) (.c (.int .u64 16)), none, 0, []⟩,
    ⟨some 0, .mv (.t 6), none, 0, []⟩])
  (.reg false [0, 2] [⟨some 2, .mv (.c (.int .i64 16)), none, 0, []⟩]))
  (.skip)))
  (.seq (.seq (.reg false [0, 2, 8] [⟨some 7, .mv (.t 0), none, 0, []⟩,
    ⟨some 8, .bin .geq .num (.t 7) (.c (.int .u32 256)), none, 0, []⟩])
  (.cond (.t 8) (.seq (.reg false [0, 2] [⟨some 9, .mv (.t 0), none, 0, []⟩,
    ⟨some 10, .bin .shr .num (.t 9) (.c (.int .u64 8)), none, 0, []⟩,
    ⟨some 0, .mv (.t 10), none, 0, []⟩])
  (.reg false [0, 2] [⟨some 11, .mv (.t 2), none, 0, []⟩,
    ⟨some 12, .bin .add .num (.t 11) (.c (.int .i64 8)), none, 0, []⟩,
    ⟨some 2, .mv (.t 12), none, 0, []⟩]))
  (.skip)))
  (.seq (.reg false [2] [⟨some 13, .mv (.t 2), none, 0, []⟩,
    ⟨some 14, .mv (.t 0), none, 0, []⟩,
    ⟨some 15, .conv .u8 (.t 14), none, 0, []⟩,
    ⟨some 16, .idx none 0 none (.c (.str math_bits_Len32_s0)) (.t 15), none, 0, []⟩,
    ⟨some 17, .conv .i64 (.t 16), none, 0, []⟩,
    ⟨some 18, .bin .add .num (.t 13) (.t 17), none, 0, []⟩,
    ⟨some 2, .mv (.t 18), none, 0, []⟩])
  (.ret))))⟩

def math_bits_Len64_s0 : ByteArray := ⟨#[0, 1, 2, 2, 3, 3, 3, 3, 4, 4, 4, 4, 4, 4, 4, 4, 5, 5, 5, 5, 5, 5, 5, 5, 5, 5, 5, 5, 5, 5, 5, 5, 6, 6, 6, 6, 6, 6, 6, 6, 6, 6, 6, 6, 6, 6, 6, 6, 6, 6, 6, 6, 6, 6, 6, 6, 6, 6, 6, 6, 6, 6, 6, 6, 7, 7, 7, 7, 7, 7, 7, 7, 7, 7, 7, 7, 7, 7, 7, 7, 7, 7, 7, 7, 7, 7, 7, 7, 7, 7, 7, 7, 7, 7, 7, 7, 7, 7, 7, 7, 7, 7, 7, 7, 7, 7, 7, 7, 7, 7, 7, 7, 7, 7, 7, 7, 7, 7, 7, 7, 7, 7, 7, 7, 7, 7, 7, 7, 8, 8, 8, 8, 8, 8, 8, 8, 8, 8, 8, 8, 8, 8, 8, 8, 8, 8, 8, 8, 8, 8, 8, 8, 8, 8, 8, 8, 8, 8, 8, 8, 8, 8, 8, 8, 8, 8, 8, 8, 8, 8, 8, 8, 8, 8, 8, 8, 8, 8, 8, 8, 8, 8, 8, 8, 8, 8, 8, 8, 8, 8, 8, 8, 8, 8, 8, 8, 8, 8, 8, 8, 8, 8, 8, 8, 8, 8, 8, 8, 8, 8, 8, 8, 8, 8, 8, 8, 8, 8, 8, 8, 8, 8, 8, 8, 8, 8, 8, 8, 8, 8, 8, 8, 8, 8, 8, 8, 8, 8, 8, 8, 8, 8, 8, 8, 8, 8, 8, 8, 8, 8, 8, 8, 8, 8, 8, 8]⟩
/-- math/bits.Len64 -/
def math_bits_Len64 : AFun := ⟨1, 25, true, [.t 2],
  .seq (.reg false [0, 2] [⟨some 2, .mv (.c (.int .i64 0)), none, 0, []⟩])
  (.seq (.seq (.reg false [0, 2, 4] [⟨some 3, .mv (.t 0), none, 0, []⟩,
    ⟨some 4, .bin .geq .num (.t 3) (.c (.int .u64 4294967296)), none, 0, []⟩])
  (.cond (.t 4) (.seq (.reg false [0] [⟨some 5, .mv (.t 0), none, 0, []⟩,
    ⟨some 6, .bin .shr .num (.t 5) (.c (.int .u64 32)), none, 0, []⟩,
    ⟨some 0, .mv (.t 6), none, 0, []⟩])
  (.reg false [0, 2] [⟨some 2, .mv (.c (.int .i64 32)), none, 0, []⟩]))
  (.skip)))
  (.seq (.seq (.reg false [0, 2, 8] [⟨some 7, .mv (.t 0), none, 0, []⟩,
    ⟨some 8, .bin .geq .num (.t 7) (.c (.int .u64 65536)), none, 0, []⟩])
  (.cond (.t 8) (.seq (.reg false [0, 2] [⟨some 9, .mv (.t 0), none, 0, []⟩,
    ⟨some 10, .bin .shr .num (.t 9) (.c (.int .u64 16)), none, 0, []⟩,
    ⟨some 0, .mv (.t 10), none, 0, []⟩])
  (.reg false [0, 2] [⟨some 11, .mv (.t 2), none, 0, []⟩,
    ⟨some 12, .bin .add .num (.t 11) (.c (.int .i64 16)), none, 0, []⟩,
    ⟨some 2, .mv (.t 12), none, 0, []⟩]))
  (.skip)))
  (.seq (.seq (.reg false [0, 2, 14] [⟨some 13, .mv (.t 0), none, 0, []⟩,
    ⟨some 14, .bin .geq .num (.t 13) (.c (.int .u64 256)), none, 0, []⟩])
  (.cond (.t 14) (.seq (.reg false [0, 2] [⟨some 15, .mv (.t 0), none, 0, []⟩,
    ⟨some 16, .bin .shr .num (.t 15) (.c (.int .u64 8)), none, 0, []⟩,
    ⟨some 0, .mv (.t 16), none, 0, []⟩])
  (.reg false [0, 2] [⟨some 17, .mv (.t 2), none, 0, []⟩,
    ⟨some 18, .bin .add .num (.t 17) (.c (.int .i64 8)), none, 0, []⟩,
    ⟨some 2, .mv (.t 18), none, 0, []⟩]))
  (.skip)))
  (.seq (.reg false [2] [⟨some 19, .mv (.t 2), none, 0, []⟩,
    ⟨some 20, .mv (.t 0), none, 0, []⟩,
    ⟨some 21, .conv .u8 (.t 20), none, 0, []⟩,
    ⟨some 22, .idx none 0 none (.c (.str math_bits_Len64_s0)) (.t 21), none, 0, []⟩,
    ⟨some 23, .conv .i64 (.t 22), none, 0, []⟩,
    ⟨some 24, .bin .add .num (.t 19) (.t 23), none, 0, []⟩,
    ⟨some 2, .mv (.t 24), none, 0, []⟩])
  (.ret)))))⟩

/-- slices.Clone[[]byte,byte] -/
def slices_Clone_byte_byte : AFun := ⟨1, 8, true, [.t 2],
  .seq (.reg false [0] [⟨some 2, .mv (.c (.sl none 0 0 0)), none, 0, []⟩])
  (.seq (.seq (.reg false [0, 4] [⟨some 3, .mv (.t 0), none, 0, []⟩,
    ⟨some 4, .bin .eql .slice (.t 3) (.c (.sl none 0 0 0)), none, 0, []⟩])
  (.cond (.t 4) (.seq (.reg false [2] [⟨some 2, .mv (.c (.sl none 0 0 0)), none, 0, []⟩])
  (.ret))
  (.skip)))
  (.seq (.reg false [2] [⟨some 5, .bslice 1 [.int .u8 0] 0 [], none, 0, []⟩,
    ⟨some 6, .mv (.t 0), none, 0, []⟩,
    ⟨some 7, .append 1 1 (.t 5) (.t 6), none, 0, []⟩,
    ⟨some 2, .mv (.t 7), none, 0, []⟩])
  (.ret)))⟩

/-- cmp.isNaN[int] -/
def cmp_isNaN_int : AFun := ⟨1, 6, true, [.t 2],
  .seq (.reg false [0] [⟨some 2, .mv (.c (.bool false)), none, 0, []⟩])
  (.seq (.reg false [2] [⟨some 3, .mv (.t 0), none, 0, []⟩,
    ⟨some 4, .mv (.t 0), none, 0, []⟩,
    ⟨some 5, .bin .neq .num (.t 3) (.t 4), none, 0, []⟩,
    ⟨some 2, .mv (.t 5), none, 0, []⟩])
  (.ret))⟩

/-- A program that has them. -/
structure HasFw (P : Prog) : Prop where
  h_file_Write : P 200 = some file_Write
  h_file_Read : P 199 = some file_Read
  h_file_order_step : P 202 = some file_order_step
  h_file_caught : P 204 = some file_caught
  h_file_Read_1 : P 203 = some file_Read_1
  h_file_Read_1_rng : P 209 = some file_Read_1_rng
  h_file_order_may : P 206 = some file_order_may
  h_file_order_let : P 205 = some file_order_let
  h_file_caught_1 : P 207 = some file_caught_1
  h_file_opened : P 213 = some file_opened
  h_file_reader_segments : P 212 = some file_reader_segments
  h_file_reader_ended : P 208 = some file_reader_ended
  h_file_pages_take : P 211 = some file_pages_take
  h_slices_Sort_int_int : P 185 = some slices_Sort_int_int
  h_file_wrong : P 214 = some file_wrong
  h_file_reader_segments_1 : P 215 = some file_reader_segments_1
  h_file_need : P 216 = some file_need
  h_slices_pdqsortOrdered_int : P 218 = some slices_pdqsortOrdered_int
  h_math_bits_Len : P 217 = some math_bits_Len
  h_file_reader_headers : P 221 = some file_reader_headers
  h_file_reader_data : P 219 = some file_reader_data
  h_file_reader_header : P 220 = some file_reader_header
  h_slices_insertionSortOrdered_int : P 223 = some slices_insertionSortOrdered_int
  h_cmp_Less_int : P 222 = some cmp_Less_int
  h_math_bits_Len32 : P 224 = some math_bits_Len32
  h_math_bits_Len64 : P 112 = some math_bits_Len64
  h_slices_Clone_byte_byte : P 225 = some slices_Clone_byte_byte
  h_cmp_isNaN_int : P 226 = some cmp_isNaN_int
  h_shut : P 210 = some cdShut

end Go.Ab
namespace Go.Ab
section
variable {P : Prog} {H : Heap} {R : List As} {Q : Out → Heap → Prop}
theorem look_ents (K : List Int) (n : Int) : lookR (.agg [.sl none 0 0 0]) true (mget (ents K) n) = .tup [.agg [.sl none 0 0 0], .bool (decide (n ∈ K))] := by
  rw [mget_ents]
  by_cases h : n ∈ K
  · rw [if_pos h, dec_t h]; rfl
  · rw [if_neg h, dec_f h]; rfl
end
end Go.Ab
namespace Go.Ab
section
variable {P : Prog} {H : Heap} {R : List As} {Q : Out → Heap → Prop}
def stpF (b bx : Nat) (v : V) (n i : Nat) : Fr := ⟨[(0, .ptr (some (b, 0))), (3, .ptr (some (bx, 0))), (23, v), (24, .int .i64 (n : Nat)), (25, .int .i64 (i : Nat))], []⟩
theorem step_loop {b bx r : Nat} {held : List Int} {v1 : V} {refs : List Int} {cx : List V} {c1 c2 c3 c4 : V} (hR : ∀ H', Hs H' R → Arr H' v1 1 refs.length (i64s refs)) (hl : refs.length ≤ 140737488355328)
    (hs : Hs H (MpA r held :: Cel b [c1, c2, c3, c4, .map (some r)] :: Cel bx cx :: R)) {Qp : Post} {s' t'}
    (h1 : (∀ n ∈ refs, n ∈ held) → ∀ H' ex, Hs H' (MpA r held :: Cel b [c1, c2, c3, c4, .map (some r)] :: Cel bx cx :: R) → Qp (.exit 1) ⟨(0, .ptr (some (b, 0))) :: (3, .ptr (some (bx, 0))) :: ex, []⟩ H')
    (h2 : (∃ n ∈ refs, n ∉ held) → ∀ H' ex, Hs H' (MpA r held :: Cel b [c1, c2, c3, c4, .map (some r)] :: Cel bx cx :: R) → Qp .ret ⟨(4, .int .i64 162) :: ex, []⟩ H') :
    loopL (Call P) [0, 3, 23, 24, 25] file_order_step_l0 Qp s' t' (stpF b bx v1 refs.length 0) H := by
  refine loop_cnt refs.length (stpF b bx v1 refs.length) (fun i H => (∀ n ∈ refs.take i, n ∈ held) ∧ Hs H (MpA r held :: Cel b [c1, c2, c3, c4, .map (some r)] :: Cel bx cx :: R)) (fun i H K hi hS hx hy hz => ?_) 0 H (Nat.zero_le _) ⟨by simp, hs⟩
  obtain ⟨hall, hS⟩ := hS
  unfold stpF
  by_cases hlt : i < refs.length
  · obtain ⟨b1, o1, z1, rfl, rl⟩ := arr_int (hR H hS.tail.tail.tail) hlt
    have ht := List.take_succ_eq_append_getElem hlt
    have hm : refs[i] ∈ refs := List.getElem_mem hlt
    have ro := rd_s (Hs.p1 hS).cel
    have g := hS.alloc (l := [.sl none 0 0 0])
    have wv := wr_s (l := [.sl none 0 0 0]) g.cel 0
    have g2 := (g.put (l' := [.sl none 0 0 0])).tail
    generalize refs[i] = n at *
    by_cases hn : n ∈ held
    · have hxx := hx hlt _ ⟨fun m hm => by rw [ht] at hm; rcases List.mem_append.1 hm with h | h; exact hall m h; rw [List.mem_singleton.1 h]; exact hn, g2⟩
      rcases hS.mp with hg | hg
      all_goals
        simp -implicitDefEqProofs -dsimp (disch := omega) only [go_sem, dec_t, dec_f, file_order_step_l0, Int.toNat_natCast, Nat.mul_one, rl, ro, hg, look_ents, dec_t hn, wv, w64, cadd1]
        exact hxx
    · have hxx := h2 ⟨n, hm, hn⟩
      rcases hS.mp with hg | hg
      all_goals
        simp -implicitDefEqProofs -dsimp (disch := omega) only [go_sem, dec_t, dec_f, file_order_step_l0, Int.toNat_natCast, Nat.mul_one, rl, ro, hg, look_ents, dec_f hn, wv]
        rw [hz]
        exact hxx _ _ g2
  · have : i = refs.length := by omega
    subst this
    rw [List.take_length] at hall
    simp -implicitDefEqProofs -dsimp (disch := omega) only [go_sem, dec_t, dec_f, file_order_step_l0]
    rw [hy]
    exact h1 hall H _ hS
end
end Go.Ab
namespace Go.Ab
section
variable {P : Prog} {H : Heap} {R : List As} {Q : Out → Heap → Prop}
def ord3 (x0 x1 x2 : V) (most : Nat) (o : OSt) (r : Nat) : List V := [x0, x1, x2, .int .i64 o.next, .int .i64 o.pages, .int .i64 most, .int .i64 (if o.op then (o.pages : Int) else 0), .map (some r)]
set_option maxHeartbeats 1000000 in
theorem may3_ct (hp : HasFw P) {b r most : Nat} {x0 x1 x2 : V} {o : OSt} {v1 v2 v3 : V} {s : Sg} (ok : o.Ok most) (hm : most ≤ 1000000) (hs : Hs H (Cel b (ord3 x0 x1 x2 most o r) :: R)) (h1 : one v1 = true) (h2 : one v2 = true) (h3 : one v3 = true)
    (hQ : ∀ H', Hs H' (Cel b (ord3 x0 x1 x2 most o r) :: R) → Q (.ret (.bool (mayS most o s))) H') : Call P 206 [.ptr (some (b, 3)), .agg (s.cells v1 v2 v3)] H Q := by
  refine call_of hp.h_file_order_may rfl ?_
  obtain ⟨num, kind, page, refs, keep, stay, data⟩ := s
  obtain ⟨next, pages, op, held⟩ := o
  have q1 := ok.pg
  have q2 := ok.op
  dsimp only at q1 q2
  have g1 := hs.alloc (l := Sg.cells ⟨num, kind, page, refs, keep, stay, data⟩ v1 v2 v3)
  replace hQ := hQ _ g1.tail
  have r1 := rd_s g1.cel
  have r2 := rd_s (Hs.p1 g1).cel
  unfold ord3 Sg.cells at *
  unfold mayS at hQ
  dsimp only at *
  clear hs g1
  by_cases k1 : kind = 1
  · rw [if_pos k1] at hQ
    cases op with
    | true =>
      have := q2 rfl
      simp only [if_true] at *
      simp -implicitDefEqProofs -dsimp (disch := omega) only [go_sem, dec_t, dec_f, r1, r2, d_gre]
      exact hQ
    | false =>
      simp only [Bool.false_eq_true, if_false] at *
      by_cases k2 : page = (pages : Int) + 1
      · by_cases k3 : page ≤ (most : Int)
        · rw [dec_t k2, dec_t k3] at hQ
          simp -implicitDefEqProofs -dsimp (disch := omega) only [go_sem, dec_t, dec_f, r1, r2, d_gre, w64]
          exact hQ
        · rw [dec_t k2, dec_f k3] at hQ
          simp -implicitDefEqProofs -dsimp (disch := omega) only [go_sem, dec_t, dec_f, r1, r2, d_gre, w64]
          exact hQ
      · rw [dec_f k2] at hQ
        simp -implicitDefEqProofs -dsimp (disch := omega) only [go_sem, dec_t, dec_f, r1, r2, d_gre, w64]
        exact hQ
  rw [if_neg k1] at hQ
  by_cases k2 : kind = 2
  · rw [if_pos k2] at hQ
    by_cases k3 : page = 0
    · rw [dec_t k3] at hQ
      simp -implicitDefEqProofs -dsimp (disch := omega) only [go_sem, dec_t, dec_f, r1, r2, d_gre]
      exact hQ
    · rw [dec_f k3] at hQ
      cases op with
      | true =>
        simp only [if_true] at *
        by_cases k4 : page = (pages : Int)
        · rw [dec_t k4] at hQ
          simp -implicitDefEqProofs -dsimp (disch := omega) only [go_sem, dec_t, dec_f, r1, r2, d_gre]
          exact hQ
        · rw [dec_f k4] at hQ
          simp -implicitDefEqProofs -dsimp (disch := omega) only [go_sem, dec_t, dec_f, r1, r2, d_gre]
          exact hQ
      | false =>
        simp only [Bool.false_eq_true, if_false] at *
        simp -implicitDefEqProofs -dsimp (disch := omega) only [go_sem, dec_t, dec_f, r1, r2, d_gre]
        exact hQ
  rw [if_neg k2] at hQ
  by_cases k3 : kind = 7
  · rw [if_pos k3] at hQ
    cases op with
    | true =>
      have := q2 rfl
      simp only [if_true] at *
      simp -implicitDefEqProofs -dsimp (disch := omega) only [go_sem, dec_t, dec_f, r1, r2, d_gre]
      exact hQ
    | false =>
      simp only [Bool.false_eq_true, if_false] at *
      by_cases k4 : pages = most
      · rw [dec_t k4] at hQ
        simp -implicitDefEqProofs -dsimp (disch := omega) only [go_sem, dec_t, dec_f, r1, r2, d_gre]
        exact hQ
      · rw [dec_f k4] at hQ
        simp -implicitDefEqProofs -dsimp (disch := omega) only [go_sem, dec_t, dec_f, r1, r2, d_gre]
        exact hQ
  rw [if_neg k3] at hQ
  cases op with
  | true =>
    have := q2 rfl
    simp only [if_true] at *
    by_cases k4 : page = (pages : Int)
    · rw [dec_t k4] at hQ
      simp -implicitDefEqProofs -dsimp (disch := omega) only [go_sem, dec_t, dec_f, r1, r2, d_gre]
      exact hQ
    · rw [dec_f k4] at hQ
      simp -implicitDefEqProofs -dsimp (disch := omega) only [go_sem, dec_t, dec_f, r1, r2, d_gre]
      exact hQ
  | false =>
    simp only [Bool.false_eq_true, if_false] at *
    simp -implicitDefEqProofs -dsimp (disch := omega) only [go_sem, dec_t, dec_f, r1, r2, d_gre]
    exact hQ
def let3F (b bx : Nat) (v : V) (n i : Nat) : Fr := ⟨[(0, .ptr (some (b, 3))), (2, .sl none 0 0 0), (4, .ptr (some (bx, 0))), (9, v), (10, .int .i64 (n : Nat)), (11, .int .i64 (i : Nat))], []⟩
theorem let3_loop {b bx r : Nat} {held : List Int} {v1 v2 : V} {refs : List Int} {keep : List Bool} {a0 a1 a2 a3 a4 x0 x1 x2 c1 c2 c3 c4 : V} (hR : ∀ H', Hs H' R → Arr H' v1 1 refs.length (i64s refs) ∧ Arr H' v2 1 keep.length (bools keep)) (hk : keep.length = refs.length) (hl : refs.length ≤ 140737488355328)
    (hs : Hs H (MpA r held :: Cel b [x0, x1, x2, c1, c2, c3, c4, .map (some r)] :: Cel bx [a0, a1, a2, v1, v2, a3, a4] :: R)) {Qp : Post} {s' t'} (h1 : ∀ H' ex, Hs H' (MpA r (delS held refs keep) :: Cel b [x0, x1, x2, c1, c2, c3, c4, .map (some r)] :: Cel bx [a0, a1, a2, v1, v2, a3, a4] :: R) → Qp (.exit 0) ⟨(0, .ptr (some (b, 3))) :: (2, .sl none 0 0 0) :: (4, .ptr (some (bx, 0))) :: ex, []⟩ H') :
    loopL (Call P) [0, 2, 4, 9, 10, 11] file_order_let_l0 Qp s' t' (let3F b bx v1 refs.length 0) H := by
  refine loop_cnt refs.length (let3F b bx v1 refs.length) (fun i H => Hs H (MpA r (delS held (refs.take i) (keep.take i)) :: Cel b [x0, x1, x2, c1, c2, c3, c4, .map (some r)] :: Cel bx [a0, a1, a2, v1, v2, a3, a4] :: R)) (fun i H K hi hS hx hy hz => ?_) 0 H (Nat.zero_le _) (by simpa [delS] using hs)
  unfold let3F
  by_cases hlt : i < refs.length
  · obtain ⟨k1, k2⟩ := hR H hS.tail.tail.tail
    obtain ⟨b1, o1, z1, rfl, rl⟩ := arr_int k1 hlt
    obtain ⟨b2, o2, z2, rfl, rk⟩ := arr_bool k2 (i := i) (by omega)
    have hd := delS_snoc refs keep held hlt (by omega)
    have rc := rd_s (Hs.p2 hS).cel
    have ro := rd_s (Hs.p1 hS).cel
    generalize refs[i] = n at *
    generalize keep[i] = q at *
    cases q with
    | true =>
      rw [if_pos rfl] at hd
      simp -implicitDefEqProofs -dsimp (disch := omega) only [go_sem, dec_t, dec_f, file_order_let_l0, Int.toNat_natCast, Nat.mul_one, rl, rc, rk, w64, cadd1]
      refine hx hlt H ?_
      rw [hd]
      exact hS
    | false =>
      rw [if_neg (by decide)] at hd
      simp -implicitDefEqProofs -dsimp (disch := omega) only [go_sem, dec_t, dec_f, file_order_let_l0, Int.toNat_natCast, Nat.mul_one, rl, rc, rk, ro]
      refine ops_mdelE rfl rfl hS.mp fun o ho => ?_
      have g := hS.mput ho
      rw [← hd] at g
      simp -implicitDefEqProofs -dsimp (disch := omega) only [go_sem, dec_t, dec_f, w64, cadd1]
      exact hx hlt _ g
  · have : i = refs.length := by omega
    subst this
    rw [List.take_length, ← hk, List.take_length] at hS
    simp -implicitDefEqProofs -dsimp (disch := omega) only [go_sem, dec_t, dec_f, file_order_let_l0]
    rw [hy]
    exact h1 H _ hS
theorem let3_ct (hp : HasFw P) {b r most : Nat} {o : OSt} {v1 v2 v3 : V} {s : Sg} (hR : ∀ H', Hs H' R → SgR H' v1 v2 v3 s) (hk : s.keep.length = s.refs.length) (nd : o.held.Nodup) (hn : s.num ∉ o.held) {x0 x1 x2 c1 c2 c3 c4 : V} (hs : Hs H (MpA r o.held :: Cel b [x0, x1, x2, c1, c2, c3, c4, .map (some r)] :: R))
    (hQ : ∀ H', Hs H' (MpA r (keepS o.held s ++ if s.stay then [s.num] else []) :: Cel b [x0, x1, x2, c1, c2, c3, c4, .map (some r)] :: R) → Q (.ret (.tup [])) H') : Call P 205 [.ptr (some (b, 3)), .agg (s.cells v1 v2 v3), .sl none 0 0 0] H Q := by
  refine call_of hp.h_file_order_let rfl ?_
  have hr0 := hR H hs.tail.tail
  obtain ⟨a1, z1, e1, rfl⟩ := hr0.refs.shape
  obtain ⟨a2, z2, e2, rfl⟩ := hr0.keep.shape
  obtain ⟨a3, z3, e3, rfl⟩ := hr0.data.shape
  obtain ⟨num, kind, page, refs, keep, stay, data⟩ := s
  have l1 := hr0.ok.l1
  clear hr0
  unfold keepS at hQ
  dsimp only at *
  have g1 := Hs.p2 (hs.alloc (l := Sg.cells ⟨num, kind, page, refs, keep, stay, data⟩ (.sl a1 refs.length z1 e1) (.sl a2 keep.length z2 e2) (.sl a3 data.length z3 e3)))
  unfold Sg.cells at *
  dsimp only at *
  have r1 := rd_s (Hs.p1 g1).cel
  simp -implicitDefEqProofs -dsimp (disch := omega) only [go_sem, dec_t, dec_f, r1]
  have g1 := Hs.p2 g1
  generalize H.new _ = H1 at *
  generalize H.next = bx at *
  refine let3_loop (fun H' h => ⟨(hR H' h).refs, (hR H' h).keep⟩) hk l1 g1 fun H2 ex g2 => ?_
  rw [delS_eq _ _ _ nd] at g2
  have r2 := rd_s (Hs.p2 g2).cel
  have r3 := rd_s (Hs.p1 g2).cel
  cases stay with
  | false =>
    simp only [Bool.false_eq_true, if_false, List.append_nil] at hQ
    simp -implicitDefEqProofs -dsimp (disch := omega) only [go_sem, dec_t, dec_f, r2]
    exact hQ _ (Hs.p2 g2).tail
  | true =>
    simp only [if_true] at hQ
    simp -implicitDefEqProofs -dsimp (disch := omega) only [go_sem, dec_t, dec_f, r2, r3]
    refine d_mupd rfl rfl rfl g2.mp (fun h => hn (List.mem_filter.1 h).1) fun o' ho => ⟨.inl rfl, ?_⟩
    have g3 := g2.mput ho
    simp -implicitDefEqProofs -dsimp (disch := omega) only [go_sem, dec_t, dec_f, ]
    exact hQ _ (Hs.p2 g3).tail
def stp3F (b bx : Nat) (v : V) (n i : Nat) : Fr := ⟨[(0, .ptr (some (b, 3))), (3, .ptr (some (bx, 0))), (23, v), (24, .int .i64 (n : Nat)), (25, .int .i64 (i : Nat))], []⟩
theorem step3_loop {b bx r : Nat} {held : List Int} {v1 : V} {refs : List Int} {cx : List V} {x0 x1 x2 c1 c2 c3 c4 : V} (hR : ∀ H', Hs H' R → Arr H' v1 1 refs.length (i64s refs)) (hl : refs.length ≤ 140737488355328)
    (hs : Hs H (MpA r held :: Cel b [x0, x1, x2, c1, c2, c3, c4, .map (some r)] :: Cel bx cx :: R)) {Qp : Post} {s' t'}
    (h1 : (∀ n ∈ refs, n ∈ held) → ∀ H' ex, Hs H' (MpA r held :: Cel b [x0, x1, x2, c1, c2, c3, c4, .map (some r)] :: Cel bx cx :: R) → Qp (.exit 1) ⟨(0, .ptr (some (b, 3))) :: (3, .ptr (some (bx, 0))) :: ex, []⟩ H')
    (h2 : (∃ n ∈ refs, n ∉ held) → ∀ H' ex, Hs H' (MpA r held :: Cel b [x0, x1, x2, c1, c2, c3, c4, .map (some r)] :: Cel bx cx :: R) → Qp .ret ⟨(4, .int .i64 162) :: ex, []⟩ H') :
    loopL (Call P) [0, 3, 23, 24, 25] file_order_step_l0 Qp s' t' (stp3F b bx v1 refs.length 0) H := by
  refine loop_cnt refs.length (stp3F b bx v1 refs.length) (fun i H => (∀ n ∈ refs.take i, n ∈ held) ∧ Hs H (MpA r held :: Cel b [x0, x1, x2, c1, c2, c3, c4, .map (some r)] :: Cel bx cx :: R)) (fun i H K hi hS hx hy hz => ?_) 0 H (Nat.zero_le _) ⟨by simp, hs⟩
  obtain ⟨hall, hS⟩ := hS
  unfold stp3F
  by_cases hlt : i < refs.length
  · obtain ⟨b1, o1, z1, rfl, rl⟩ := arr_int (hR H hS.tail.tail.tail) hlt
    have ht := List.take_succ_eq_append_getElem hlt
    have hm : refs[i] ∈ refs := List.getElem_mem hlt
    have ro := rd_s (Hs.p1 hS).cel
    have g := hS.alloc (l := [.sl none 0 0 0])
    have wv := wr_s (l := [.sl none 0 0 0]) g.cel 0
    have g2 := (g.put (l' := [.sl none 0 0 0])).tail
    generalize refs[i] = n at *
    by_cases hn : n ∈ held
    · have hxx := hx hlt _ ⟨fun m hm => by rw [ht] at hm; rcases List.mem_append.1 hm with h | h; exact hall m h; rw [List.mem_singleton.1 h]; exact hn, g2⟩
      rcases hS.mp with hg | hg
      all_goals
        simp -implicitDefEqProofs -dsimp (disch := omega) only [go_sem, dec_t, dec_f, file_order_step_l0, Int.toNat_natCast, Nat.mul_one, rl, ro, hg, look_ents, dec_t hn, wv, w64, cadd1]
        exact hxx
    · have hxx := h2 ⟨n, hm, hn⟩
      rcases hS.mp with hg | hg
      all_goals
        simp -implicitDefEqProofs -dsimp (disch := omega) only [go_sem, dec_t, dec_f, file_order_step_l0, Int.toNat_natCast, Nat.mul_one, rl, ro, hg, look_ents, dec_f hn, wv]
        rw [hz]
        exact hxx _ _ g2
  · have : i = refs.length := by omega
    subst this
    rw [List.take_length] at hall
    simp -implicitDefEqProofs -dsimp (disch := omega) only [go_sem, dec_t, dec_f, file_order_step_l0]
    rw [hy]
    exact h1 hall H _ hS
set_option maxHeartbeats 2000000 in
theorem step3_ct (hp : HasFw P) {b r most : Nat} {x0 x1 x2 : V} {o : OSt} {v1 v2 v3 : V} {s : Sg} (ok : o.Ok most) (hm : most ≤ 1000000) (hn : o.next ≤ 1000000000000) (hR : ∀ H', Hs H' R → SgR H' v1 v2 v3 s) (hk : s.keep.length = s.refs.length) (hs : Hs H (MpA r o.held :: Cel b (ord3 x0 x1 x2 most o r) :: R))
    (h0 : comeE most o s = 0 → ∀ H', Hs H' (MpA r (comeO o s).held :: Cel b (ord3 x0 x1 x2 most (comeO o s) r) :: R) → Q (.ret (.int .i64 0)) H') (h1 : comeE most o s ≠ 0 → ∀ H', Hs H' R → Q (.ret (.int .i64 (comeE most o s))) H') : Call P 202 [.ptr (some (b, 3)), .agg (s.cells v1 v2 v3)] H Q := by
  refine call_of hp.h_file_order_step rfl ?_
  have hr0 := hR H hs.tail.tail
  obtain ⟨a1, z1, e1, rfl⟩ := hr0.refs.shape
  obtain ⟨a2, z2, e2, rfl⟩ := hr0.keep.shape
  obtain ⟨a3, z3, e3, rfl⟩ := hr0.data.shape
  have l1 := hr0.ok.l1
  clear hr0
  have g1 := hs.alloc (l := s.cells (.sl a1 s.refs.length z1 e1) (.sl a2 s.keep.length z2 e2) (.sl a3 s.data.length z3 e3))
  have r1 := rd_s g1.cel
  have r2 := rd_s (Hs.p2 g1).cel
  have rm := rd_m g1.cel 7
  by_cases kn : s.num = (o.next : Int)
  rotate_left
  · have he : comeE most o s = 161 := by unfold comeE; rw [if_pos kn]
    rw [he] at h1
    have h1 := h1 (by decide) _ g1.tail.tail.tail
    obtain ⟨num, kind, page, refs, keep, stay, data⟩ := s
    unfold Sg.cells ord3 at *
    dsimp only at *
    simp -implicitDefEqProofs -dsimp (disch := omega) only [go_sem, dec_t, dec_f, r1, r2]
    exact h1
  have e1' : mayS most o s = false → comeE most o s = 151 := fun k => by unfold comeE; rw [if_neg (by simpa using kn), if_pos k]
  have e2' : mayS most o s = true → (∃ n ∈ s.refs, n ∉ o.held) → comeE most o s = 162 := fun k k2 => by unfold comeE; rw [if_neg (by simpa using kn), if_neg (by rw [k]; decide), if_pos k2]
  have e3' : mayS most o s = true → (∀ n ∈ s.refs, n ∈ o.held) → comeE most o s = 0 := fun k k2 => by unfold comeE; rw [if_neg (by simpa using kn), if_neg (by rw [k]; decide), if_neg (fun ⟨n, h1, h2⟩ => h2 (k2 n h1))]
  obtain ⟨num, kind, page, refs, keep, stay, data⟩ := s
  have c1 : Sg.cells ⟨num, kind, page, refs, keep, stay, data⟩ (.sl a1 refs.length z1 e1) (.sl a2 keep.length z2 e2) (.sl a3 data.length z3 e3) = [.int .i64 num, .int .i64 kind, .int .i64 page, .sl a1 refs.length z1 e1, .sl a2 keep.length z2 e2, .bool stay, .sl a3 data.length z3 e3] := rfl
  rw [c1] at r1 r2 rm g1 ⊢
  dsimp only at kn l1 hk e2' e3'
  have r2' := r2
  unfold ord3 at r2'
  simp -implicitDefEqProofs -dsimp (disch := omega) only [go_sem, dec_t, dec_f, r1, r2', rm]
  generalize hH1 : H.new _ = H1 at *
  generalize hbx : H.next = bx at *
  clear r1 r2 r2' rm hs
  rw [← c1]
  refine may3_ct hp ok hm (Hs.p2 g1) rfl rfl rfl fun H2 g2 => ?_
  have g2 : Hs H2 (MpA r o.held :: Cel b (ord3 x0 x1 x2 most o r) :: Cel bx _ :: R) := Hs.p2 g2
  cases hmay : mayS most o ⟨num, kind, page, refs, keep, stay, data⟩ with
  | false =>
    rw [e1' hmay] at h1
    have h1 := h1 (by decide) H2 g2.tail.tail.tail
    simp -implicitDefEqProofs -dsimp (disch := omega) only [go_sem, dec_t, dec_f, ]
    exact h1
  | true =>
  have r1 := rd_s (Hs.p2 g2).cel
  simp -implicitDefEqProofs -dsimp (disch := omega) only [go_sem, dec_t, dec_f, r1]
  unfold ord3 at g2
  refine step3_loop (fun H' h => (hR H' h).refs) l1 g2 (fun hall H3 ex g3 => ?_) (fun hno H3 ex g3 => ?_)
  rotate_left
  · rw [e2' hmay hno] at h1
    have h1 := h1 (by decide) H3 g3.tail.tail.tail
    simp -implicitDefEqProofs -dsimp (disch := omega) only [go_sem, dec_t, dec_f, ]
    exact h1
  have hz := e3' hmay hall
  have h0 := h0 hz
  have hok := ok.come hz
  clear h1 e1' e2' e3'
  obtain ⟨nx, hnx⟩ : ∃ nx : Int, nx = ((o.next + 1 : Nat) : Int) := ⟨_, rfl⟩
  have ecast : (o.next : Int) + 1 = nx := by omega
  have r3 := rd_s (Hs.p1 g3).cel
  have w3 := wr_s (Hs.p1 g3).cel 3
  have g4 := (Hs.p1 g3).put (l' := [x0, x1, x2, .int .i64 nx, .int .i64 o.pages, .int .i64 most, .int .i64 (if o.op then (o.pages : Int) else 0), .map (some r)])
  have r4 := rd_s (Hs.p2 g4).cel
  have r4b := rd_s g4.cel
  have rm4 := rd_m (Hs.p2 g4).cel 7
  have hnot : num ∉ o.held := fun h => by have := ok.lt _ h; omega
  have fin : ∀ (cx : List V) (c2 c4 : V) (H5 : Heap), Hs H5 (MpA r o.held :: Cel b [x0, x1, x2, .int .i64 nx, c2, .int .i64 most, c4, .map (some r)] :: Cel bx cx :: R) → (c2 = .int .i64 ((comeO o ⟨num, kind, page, refs, keep, stay, data⟩).pages : Nat)) →
      (c4 = .int .i64 (if (comeO o ⟨num, kind, page, refs, keep, stay, data⟩).op then ((comeO o ⟨num, kind, page, refs, keep, stay, data⟩).pages : Int) else 0)) → ∀ Q' : Out → Heap → Prop, (∀ H', Q (.ret (.int .i64 0)) H' → Q' (.ret (.tup [])) H') →
      Call P 205 [.ptr (some (b, 3)), .agg (Sg.cells ⟨num, kind, page, refs, keep, stay, data⟩ (.sl a1 refs.length z1 e1) (.sl a2 keep.length z2 e2) (.sl a3 data.length z3 e3)), .sl none 0 0 0] H5 Q' := fun cx c2 c4 H5 g5 hc2 hc4 Q' hQ' => by
    subst hc2 hc4 hnx
    refine let3_ct (most := most) (o := o) hp (fun H' h => hR H' h.tail) hk ok.nd hnot g5 fun H6 g6 => hQ' H6 (h0 H6 ?_)
    have := (Hs.p2 g6).tail
    unfold ord3
    exact this
  rw [c1] at fin
  clear hnx
  have hpp : kind = 1 → page = (o.pages : Int) + 1 := fun k => by
    unfold mayS at hmay
    rw [if_pos k] at hmay
    simp only [Bool.and_eq_true, decide_eq_true_eq] at hmay
    exact hmay.2.1
  by_cases k1 : kind = 1
  · subst k1
    have hpp := hpp rfl
    have w4 := wr_s g4.cel 6
    have g5 := g4.put (l' := [x0, x1, x2, .int .i64 nx, .int .i64 o.pages, .int .i64 most, .int .i64 page, .map (some r)])
    have w5 := wr_s g5.cel 4
    have r5 := rd_s (Hs.p2 g5).cel
    have g6 := g5.put (l' := [x0, x1, x2, .int .i64 nx, .int .i64 page, .int .i64 most, .int .i64 page, .map (some r)])
    have rm6 := rd_m (Hs.p2 g6).cel 7
    simp -implicitDefEqProofs -dsimp (disch := omega) only [go_sem, dec_t, dec_f, r3, w3, w64, ecast, r4, r4b, w4]
    refine aft_intro (t := tag _) (by simp [rechecks, recheck, fresh, Fr.get, Fr.put, look, step, opd, r5]) ?_
    simp -implicitDefEqProofs -dsimp (disch := omega) only [go_sem, dec_t, dec_f, w5, rm6]
    refine fin _ _ _ _ (Hs.p1 g6) ?_ ?_ _ fun H' h => ?_
    · simp only [comeO, if_true]; rw [hpp]; congr 1
    · simp only [comeO, if_true]; rw [hpp]; congr 1
    · simp -implicitDefEqProofs -dsimp (disch := omega) only [go_sem, dec_t, dec_f, ]
      exact h
  · by_cases k6 : kind = 6
    · subst k6
      have w4 := wr_s g4.cel 6
      have g5 := g4.put (l' := [x0, x1, x2, .int .i64 nx, .int .i64 o.pages, .int .i64 most, .int .i64 0, .map (some r)])
      have rm5 := rd_m (Hs.p2 g5).cel 7
      simp -implicitDefEqProofs -dsimp (disch := omega) only [go_sem, dec_t, dec_f, r3, w3, w64, ecast, r4, r4b, w4, rm5]
      refine fin _ _ _ _ (Hs.p1 g5) ?_ ?_ _ fun H' h => ?_
      · simp [comeO]
      · simp [comeO]
      · simp -implicitDefEqProofs -dsimp (disch := omega) only [go_sem, dec_t, dec_f, ]
        exact h
    · simp -implicitDefEqProofs -dsimp (disch := omega) only [go_sem, dec_t, dec_f, r3, w3, w64, ecast, r4, r4b, rm4]
      refine fin _ _ _ _ (Hs.p1 g4) ?_ ?_ _ fun H' h => ?_
      · simp [comeO, k1]
      · simp [comeO, k1, k6]
      · simp -implicitDefEqProofs -dsimp (disch := omega) only [go_sem, dec_t, dec_f, ]
        exact h
end
end Go.Ab
namespace Go.Ab
def exb {α β : Type} (x : Except Int α) (f : α → Except Int β) : Except Int β := match x with
  | .ok a => f a
  | .error e => .error e
theorem exb_ok {α β : Type} (a : α) (f : α → Except Int β) : exb (.ok a) f = f a := rfl
theorem exb_er {α β : Type} (e : Int) (f : α → Except Int β) : exb (.error e) f = .error e := rfl
def flgR (bs : List Nat) (a : Nat) : Except Int (Bool × Nat) := exb (takR bs a 1) fun p => .ok (decide (p.1 = 1), p.2)
def refsR (bs : List Nat) (num : Nat) : Nat → Int → Nat → Except Int (List Int × Nat)
  | 0, _, a => .ok ([], a)
  | k + 1, ah, a => exb (numR bs num a) fun p => if (p.1 : Int) ≤ ah then .error 161 else exb (refsR bs num k p.1 p.2) fun q => .ok ((p.1 : Int) :: q.1, q.2)
def keepR (bs : List Nat) : Nat → Nat → Except Int (List Bool × Nat)
  | 0, a => .ok ([], a)
  | k + 1, a => exb (flgR bs a) fun p => exb (keepR bs k p.2) fun q => .ok (p.1 :: q.1, q.2)
def pre {α : Type} (L : List α) (x : Except Int (List α × Nat)) : Except Int (List α × Nat) := exb x fun p => .ok (L ++ p.1, p.2)
theorem pre_cons {α : Type} (L : List α) (n : α) (x : Except Int (List α × Nat)) : pre L (exb x fun q => .ok (n :: q.1, q.2)) = pre (L ++ [n]) x := by
  cases x with
  | error e => rfl
  | ok p => simp [pre, exb]
section
variable {P : Prog} {H : Heap} {R : List As} {Q : Out → Heap → Prop}
theorem taken (hp : HasSeg P) {bs : List Nat} {a : Nat} {k : Int} (h0 : ∀ n a', takR bs a k = .ok (n, a') → (rTake bs a k) = (n, 0, a') → Q (.ret (.tup [])) H) (h1 : ∀ e, takR bs a k = .error e → Q (.pan (flt e)) H) : Call P 158 [.int .i64 (rTake bs a k).2.1] H Q := by
  unfold takR at h0 h1
  refine need_ct hp (fun k => ?_) (fun k => ?_) (fun k k2 => ?_)
  · exact h0 _ _ (by rw [if_neg (by omega), if_neg (by omega)]) (by rw [← k])
  · exact h1 163 (if_pos k)
  · exact h1 161 (by rw [if_neg k, if_pos k2])
theorem flag_ct (hp : HasSeg P) (hb : HasBits P) {r a : Nat} {bs : List Nat} (hs : Hs H (RdA r bs a :: R))
    (h1 : ∀ b a' H', flgR bs a = .ok (b, a') → Hs H' (RdA r bs a' :: R) → Q (.ret (.bool b)) H') (h2 : ∀ e H', flgR bs a = .error e → Hs H' R → Q (.pan (flt e)) H') :
    Call P 160 [.agg [.ptr (some (r, 0))]] H Q := by
  refine call_of hp.h_segment_reader_flag rfl ?_
  have g1 := hs.alloc (l := [.ptr (some (r, 0))])
  simp -implicitDefEqProofs -dsimp (disch := omega) only [go_sem, dec_t, dec_f, ]
  refine rTakeA hb g1.p1 fun H1 g2 => ?_
  unfold flgR at h1 h2
  simp -implicitDefEqProofs -dsimp (disch := omega) only [go_sem, dec_t, dec_f, ]
  refine taken hp (fun n a' k k2 => ?_) fun e k => ?_
  · rw [k2] at g2 ⊢
    have h1 := h1 (decide (n = 1)) a' H1 (by rw [k]; rfl) (Hs.p1 g2).tail
    simp -implicitDefEqProofs -dsimp (disch := omega) only [go_sem, dec_t, dec_f, ]
    rw [show decide ((n : Int) = 1) = decide (n = 1) from dec_iff (by omega)]
    exact h1
  · simp -implicitDefEqProofs -dsimp (disch := omega) only [go_sem, dec_t, dec_f, ]
    exact h2 e H1 (by rw [k]; rfl) g2.tail.tail
structure HdX where
  i : Nat
  ah : Int
  a : Nat
  L : List Int
  v : V
def HdX.fr (b1 b2 b6 cnt : Nat) (x : HdX) : Fr := ⟨[(1, .ptr (some (b1, 0))), (2, .ptr (some (b2, 0))), (6, .ptr (some (b6, 0))), (8, .int .i64 (cnt : Nat)), (9, .int .i64 x.ah), (56, .int .i64 (cnt : Nat)), (57, .int .i64 (x.i : Nat))], []⟩
def hdC (num kind page : Int) (v : V) : List V := [.int .i64 num, .int .i64 kind, .int .i64 page, v, .sl none 0 0 0, .bool false, .sl none 0 0 0]
def hdT (r : Nat) (bs : List Nat) (b1 b2 : Nat) (num kind page : Int) (a : Nat) (L : List Int) (v : V) (R : List As) : List As :=
  RdA r bs a :: Cel b2 (hdC num kind page v) :: Lst v 1 L.length (i64s L) :: Cel b1 [.ptr (some (r, 0))] :: R
set_option maxHeartbeats 1000000 in
theorem head_l1 (hp : HasSeg P) (hb : HasBits P) {r b1 b2 b6 cnt num a0 : Nat} {kind page : Int} {bs : List Nat} {v0 : V} (hc : cnt ≤ 32768) (hn : num ≤ 32768) (hs : Hs H (hdT r bs b1 b2 num kind page a0 [] v0 R)) {Qp : Post} {s' t'}
    (h1 : ∀ L a v H' ex, refsR bs num cnt (-1) a0 = .ok (L, a) → L.length = cnt → Hs H' (hdT r bs b1 b2 num kind page a L v R) → Qp (.exit 0) ⟨(1, .ptr (some (b1, 0))) :: (2, .ptr (some (b2, 0))) :: (6, .ptr (some (b6, 0))) :: (8, .int .i64 (cnt : Nat)) :: ex, []⟩ H')
    (h2 : ∀ e H' tm, refsR bs num cnt (-1) a0 = .error e → Hs H' R → Qp (.pan (flt e)) ⟨tm, []⟩ H') :
    loopL (Call P) [1, 2, 6, 8, 9, 56, 57] segment_reader_head_l1 Qp s' t' (HdX.fr b1 b2 b6 cnt ⟨0, -1, a0, [], v0⟩) H := by
  refine loop_decP (σ := HdX) (fun x => cnt - x.i) (HdX.fr b1 b2 b6 cnt) (fun x H => x.i ≤ cnt ∧ x.L.length = x.i ∧ pre x.L (refsR bs num (cnt - x.i) x.ah x.a) = refsR bs num cnt (-1) a0 ∧ Hs H (hdT r bs b1 b2 num kind page x.a x.L x.v R))
    (fun x H K ok hn hx hy hz => ?_) ⟨0, -1, a0, [], v0⟩ H ⟨Nat.zero_le _, rfl, ?_, hs⟩
  rotate_left
  · dsimp only
    rw [Nat.sub_zero]
    cases refsR bs num cnt (-1) a0 <;> rfl
  obtain ⟨i, ah, a, L, v⟩ := x
  obtain ⟨hi, hl, hin, h⟩ := ok
  dsimp only at hi hl hin h hn
  unfold HdX.fr
  by_cases hlt : i < cnt
  · have cS := rd_s (Hs.p1 h).cel
    have c1 := rd_m (Hs.p3 h).cel 1
    rw [show cnt - i = (cnt - (i + 1)) + 1 by omega, refsR] at hin
    unfold hdC at cS
    simp -implicitDefEqProofs -dsimp (disch := omega) only [go_sem, dec_t, dec_f, segment_reader_head_l1, c1, cS]
    refine number_ct hp hb h (by omega) (fun n a' H' e hn2 g => ?_) (fun e H' k g => ?_)
    · rw [e, exb_ok] at hin
      have hn := fun w => hn ⟨i + 1, n, a', L ++ [(n : Int)], w⟩
      simp -implicitDefEqProofs -dsimp (disch := omega) only [go_sem, dec_t, dec_f, ]
      refine wrong_ct hp (fun k => ?_) (fun k => ?_)
      · have k : ¬ (n : Int) ≤ ah := of_decide_eq_false k
        dsimp only at hin
        rw [if_neg k, pre_cons] at hin
        have cS := rd_s (Hs.p1 g).cel
        unfold hdC at cS
        obtain ⟨v2, H2, ha, hoo, hsm, hf⟩ := app_one (Hs.p2 g).own (M := [.int .i64 (n : Nat)]) (m := 1) (eb := 8) rfl rfl (by omega) (by omega)
        have g2 := (Hs.p2 g).lst' hsm hoo hf
        obtain ⟨va, vc, ve, rfl⟩ := hoo.arr.shape
        have wS := wr_s (Hs.p2 g2).cel 3
        unfold hdC at wS
        simp -implicitDefEqProofs -dsimp (disch := omega) only [go_sem, dec_t, dec_f, cS, ha, wS, cadd1, w64]
        have g3 := (Hs.p2 g2).put (l' := hdC num kind page (.sl va (L.length + 1) vc ve))
        refine hn (.sl va (L.length + 1) vc ve) _ (by dsimp only; omega) ⟨by dsimp only; omega, by simp [hl], hin, ?_⟩
        have g4 := Hs.p2 g3
        unfold hdT
        simp only [List.length_append, List.length_singleton, i64s, List.map_append, List.map_cons, List.map_nil] at g4 ⊢
        exact g4
      · have k : (n : Int) ≤ ah := of_decide_eq_true k
        dsimp only at hin
        rw [if_pos k] at hin
        simp -implicitDefEqProofs -dsimp (disch := omega) only [go_sem, dec_t, dec_f, ]
        rw [hz]
        exact h2 161 _ _ hin.symm g.tail.tail.tail.tail
    · rw [k, exb_er] at hin
      simp -implicitDefEqProofs -dsimp (disch := omega) only [go_sem, dec_t, dec_f, ]
      rw [hz]
      exact h2 e _ _ hin.symm g.tail.tail.tail
  · have hi' : i = cnt := by omega
    subst hi'
    rw [Nat.sub_self, refsR, pre, exb_ok, List.append_nil] at hin
    simp -implicitDefEqProofs -dsimp (disch := omega) only [go_sem, dec_t, dec_f, segment_reader_head_l1]
    rw [hx]
    exact h1 L a v H _ hin.symm hl h
end
end Go.Ab
namespace Go.Ab
structure HkX where
  i : Nat
  a : Nat
  K : List Bool
  w : V
def HkX.fr (b1 b2 b6 cnt : Nat) (x : HkX) : Fr := ⟨[(1, .ptr (some (b1, 0))), (2, .ptr (some (b2, 0))), (6, .ptr (some (b6, 0))), (75, .int .i64 (cnt : Nat)), (76, .int .i64 (x.i : Nat))], []⟩
def hkC (num kind page : Int) (v w : V) : List V := [.int .i64 num, .int .i64 kind, .int .i64 page, v, w, .bool false, .sl none 0 0 0]
def hkT (r : Nat) (bs : List Nat) (b1 b2 : Nat) (num kind page : Int) (v : V) (a : Nat) (K : List Bool) (w : V) (R : List As) : List As :=
  RdA r bs a :: Cel b2 (hkC num kind page v w) :: Lst w 1 K.length (bools K) :: Cel b1 [.ptr (some (r, 0))] :: R
section
variable {P : Prog} {H : Heap} {R : List As} {Q : Out → Heap → Prop}
set_option maxHeartbeats 1000000 in
theorem head_l0 (hp : HasSeg P) (hb : HasBits P) {r b1 b2 b6 cnt a0 : Nat} {num kind page : Int} {bs : List Nat} {v w0 : V} (hc : cnt ≤ 32768) (hv : one v = true) (hs : Hs H (hkT r bs b1 b2 num kind page v a0 [] w0 R)) {Qp : Post} {s' t'}
    (h1 : ∀ K a w H' ex, keepR bs cnt a0 = .ok (K, a) → K.length = cnt → Hs H' (hkT r bs b1 b2 num kind page v a K w R) → Qp (.exit 2) ⟨(1, .ptr (some (b1, 0))) :: (2, .ptr (some (b2, 0))) :: (6, .ptr (some (b6, 0))) :: ex, []⟩ H')
    (h2 : ∀ e H' tm, keepR bs cnt a0 = .error e → Hs H' R → Qp (.pan (flt e)) ⟨tm, []⟩ H') :
    loopL (Call P) [1, 2, 6, 75, 76] segment_reader_head_l0 Qp s' t' (HkX.fr b1 b2 b6 cnt ⟨0, a0, [], w0⟩) H := by
  refine loop_decP (σ := HkX) (fun x => cnt - x.i) (HkX.fr b1 b2 b6 cnt) (fun x H => x.i ≤ cnt ∧ x.K.length = x.i ∧ pre x.K (keepR bs (cnt - x.i) x.a) = keepR bs cnt a0 ∧ Hs H (hkT r bs b1 b2 num kind page v x.a x.K x.w R))
    (fun x H K ok hn hx hy hz => ?_) ⟨0, a0, [], w0⟩ H ⟨Nat.zero_le _, rfl, ?_, hs⟩
  rotate_left
  · dsimp only
    rw [Nat.sub_zero]
    cases keepR bs cnt a0 <;> rfl
  obtain ⟨i, a, L, w⟩ := x
  obtain ⟨hi, hl, hin, h⟩ := ok
  dsimp only at hi hl hin h hn
  unfold HkX.fr
  by_cases hlt : i < cnt
  · have cS := rd_s (Hs.p1 h).cel
    have c1 := rd_m (Hs.p3 h).cel 1
    rw [show cnt - i = (cnt - (i + 1)) + 1 by omega, keepR] at hin
    unfold hkC at cS
    simp -implicitDefEqProofs -dsimp (disch := omega) only [go_sem, dec_t, dec_f, segment_reader_head_l0, c1, cS]
    refine flag_ct hp hb h (fun n a' H' e g => ?_) (fun e H' k g => ?_)
    · rw [e, exb_ok, pre_cons] at hin
      have hn := fun w => hn ⟨i + 1, a', L ++ [n], w⟩
      have cS := rd_s (Hs.p1 g).cel
      unfold hkC at cS
      obtain ⟨v2, H2, ha, hoo, hsm, hf⟩ := app_one (Hs.p2 g).own (M := [.bool n]) (m := 1) (eb := 1) rfl rfl (by omega) (by omega)
      have g2 := (Hs.p2 g).lst' hsm hoo hf
      obtain ⟨va, vc, ve, rfl⟩ := hoo.arr.shape
      have wS := wr_s (Hs.p2 g2).cel 4
      unfold hkC at wS
      obtain ⟨wa, wc, we, hw⟩ := (Hs.p2 g).own.arr.shape
      subst hw
      simp -implicitDefEqProofs -dsimp (disch := omega) only [go_sem, dec_t, dec_f, ]
      refine aft_intro (t := tag _) (by simp [rechecks, recheck, fresh, Fr.get, Fr.put, look, step, opd, cS]) ?_
      simp -implicitDefEqProofs -dsimp (disch := omega) only [go_sem, dec_t, dec_f, cS, ha, wS, cadd1, w64]
      have g3 := (Hs.p2 g2).put (l' := hkC num kind page v (.sl va (L.length + 1) vc ve))
      refine hn (.sl va (L.length + 1) vc ve) _ (by dsimp only; omega) ⟨by dsimp only; omega, by simp [hl], hin, ?_⟩
      have g4 := Hs.p2 g3
      unfold hkT
      simp only [List.length_append, List.length_singleton, bools, List.map_append, List.map_cons, List.map_nil] at g4 ⊢
      exact g4
    · rw [k, exb_er] at hin
      simp -implicitDefEqProofs -dsimp (disch := omega) only [go_sem, dec_t, dec_f, ]
      rw [hz]
      exact h2 e _ _ hin.symm g.tail.tail.tail
  · have hi' : i = cnt := by omega
    subst hi'
    rw [Nat.sub_self, keepR, pre, exb_ok, List.append_nil] at hin
    simp -implicitDefEqProofs -dsimp (disch := omega) only [go_sem, dec_t, dec_f, segment_reader_head_l0]
    rw [hx]
    exact h1 L a w H _ hin.symm hl h
end
end Go.Ab
namespace Go.Ab
def headR (bs : List Nat) : Except Int (Sg × Nat × Nat) :=
  exb (numR bs 32768 0) fun p => exb (takR bs p.2 8) fun q => if kindOk q.1 then exb (numR bs 65 q.2) fun g => if pagedP (pageK q.1) g.1 then exb (numR bs (p.1 + 1) g.2) fun c => if 0 < c.1 ∧ ¬ refsK q.1 then .error 161 else
    exb (refsR bs p.1 c.1 (-1) c.2) fun l => exb (keepR bs c.1 l.2) fun k => exb (flgR bs k.2) fun st => if st.1 = true ∧ ¬ (q.1 : Int) = 2 then .error 161 else exb (alnR bs st.2) fun a => exb (numR bs 67108865 a) fun n => if 0 < n.1 ∧ ¬ dataK q.1 then .error 161 else
      .ok (⟨p.1, q.1, g.1, l.1, k.1, st.1, []⟩, n.1, n.2) else .error 161 else .error 161
theorem rTake_lt (bs : List Nat) (a k : Nat) (hk : k ≤ 64) : (rTake bs a k).1 < 2 ^ k := by
  unfold rTake
  split
  · exact Nat.two_pow_pos _
  · split
    · exact Nat.two_pow_pos _
    · exact toldN_lt bs a k
section
variable {P : Prog} {H : Heap} {R : List As} {Q : Out → Heap → Prop}
theorem aligned (hp : HasSeg P) {bs : List Nat} {a : Nat} (h0 : alnR bs a = .ok (rAlign bs a).2 → Q (.ret (.tup [])) H) (h1 : ∀ e, alnR bs a = .error e → Q (.pan (flt e)) H) : Call P 158 [.int .i64 (rAlign bs a).1] H Q := by
  unfold alnR at h0 h1
  refine need_ct hp (fun k => ?_) (fun k => ?_) (fun k k2 => ?_)
  · exact h0 (by rw [if_neg (by omega), if_neg (by omega)])
  · exact h1 163 (if_pos k)
  · exact h1 161 (by rw [if_neg k, if_pos k2])
set_option maxHeartbeats 1000000 in
theorem head_ct (hp : HasSeg P) (hb : HasBits P) {r : Nat} {bs : List Nat} (hs : Hs H (RdA r bs 0 :: R))
    (h1 : ∀ s len a v1 v2 H', headR bs = .ok (s, len, a) → s.data = [] → Hs H' (RdA r bs a :: Lst v1 1 s.refs.length (i64s s.refs) :: Lst v2 1 s.keep.length (bools s.keep) :: R) → Q (.ret (.tup [.agg (s.cells v1 v2 (.sl none 0 0 0)), .int .i64 (len : Nat)])) H')
    (h2 : ∀ e H', headR bs = .error e → Hs H' R → Q (.pan (flt e)) H') : Call P 161 [.agg [.ptr (some (r, 0))]] H Q := by
  refine call_of hp.h_segment_reader_head rfl ?_
  have g1 := hs.alloc (l := [.ptr (some (r, 0))])
  have g1 := g1.alloc (l := [.int .i64 0, .int .i64 0, .int .i64 0, .sl none 0 0 0, .sl none 0 0 0, .bool false, .sl none 0 0 0])
  rw [next_new] at g1
  have c1 := rd_m (Hs.p1 g1).cel 1
  simp -implicitDefEqProofs -dsimp (disch := omega) only [go_sem, dec_t, dec_f, c1]
  have ne : ¬ H.next = H.next + 1 := by omega
  generalize (H.new _).new _ = H1 at *
  generalize H.next + 1 = b2 at *
  generalize H.next = b1 at *
  have g1 := Hs.p2 g1
  have e0 : headR bs = headR bs := rfl
  conv at e0 => rhs; unfold headR
  refine number_ct (bound := 32768) hp hb g1 (by omega) (fun num a1 H2 e1 l1 g2 => ?_) (fun e H2 k g2 => ?_)
  rotate_left
  · rw [k, exb_er] at e0
    simp -implicitDefEqProofs -dsimp (disch := omega) only [go_sem, dec_t, dec_f, ]
    exact h2 e _ e0 g2.tail.tail
  rw [e1, exb_ok] at e0
  have c1 := rd_s (Hs.p2 g2).cel
  have w2 := wr_s (Hs.p1 g2).cel 0
  simp -implicitDefEqProofs -dsimp (disch := omega) only [go_sem, dec_t, dec_f, c1, w2, ne]
  have g3 := Hs.p1 ((Hs.p1 g2).put (l' := [.int .i64 (num : Nat), .int .i64 0, .int .i64 0, .sl none 0 0 0, .sl none 0 0 0, .bool false, .sl none 0 0 0]))
  generalize H2.put b2 _ = H3 at *
  refine rTakeA hb g3 fun H4 g4 => ?_
  have lk := rTake_lt bs a1 8 (by omega)
  simp -implicitDefEqProofs -dsimp (disch := omega) only [go_sem, dec_t, dec_f, ]
  refine taken hp (fun kind a2 k k2 => ?_) fun e k => ?_
  rotate_left
  · rw [k, exb_er] at e0
    simp -implicitDefEqProofs -dsimp (disch := omega) only [go_sem, dec_t, dec_f, ]
    exact h2 e _ e0 g4.tail.tail.tail
  dsimp only at e0
  rw [k, exb_ok] at e0
  rw [show ((8 : Nat) : Int) = 8 from rfl, k2] at lk
  rw [k2] at g4 ⊢
  dsimp only at e0 lk g4 ⊢
  have c2 := rd_s (Hs.p1 g4).cel
  have w2 := wr_s (Hs.p1 g4).cel 1
  simp -implicitDefEqProofs -dsimp (disch := omega) only [go_sem, dec_t, dec_f, c2, w2, w64]
  have g5 := Hs.p1 ((Hs.p1 g4).put (l' := [.int .i64 (num : Nat), .int .i64 (kind : Nat), .int .i64 0, .sl none 0 0 0, .sl none 0 0 0, .bool false, .sl none 0 0 0]))
  generalize H4.put b2 _ = H5 at *
  refine allowedS hp fun H6 s6 => ?_
  have g6 := g5.keep s6
  by_cases ik : kindOk kind
  rotate_left
  · rw [if_neg ik] at e0
    unfold ruleC
    rw [dec_f ik, if_neg ik]
    have g7 := g6.alloc (l := [.int .i64 0, .bool false, .bool false, .bool false])
    simp -implicitDefEqProofs -dsimp (disch := omega) only [go_sem, dec_t, dec_f, ]
    refine wrong_ct hp (fun k => by cases k) fun _ => ?_
    simp -implicitDefEqProofs -dsimp (disch := omega) only [go_sem, dec_t, dec_f, ]
    exact h2 161 _ e0 g7.tail.tail.tail.tail
  rw [if_pos ik] at e0
  unfold ruleC
  rw [dec_t ik, if_pos ik]
  have g7 := g6.alloc (l := [.int .i64 (pageK (kind : Nat)), .bool (decide (refsK (kind : Nat))), .bool (decide (((kind : Nat) : Int) = 2)), .bool (decide (dataK (kind : Nat)))])
  have c1 := rd_m (Hs.p3 g7).cel 1
  simp -implicitDefEqProofs -dsimp (disch := omega) only [go_sem, dec_t, dec_f, c1]
  generalize H6.new _ = H7 at *
  generalize H6.next = b6 at *
  refine wrong_ct hp (fun _ => ?_) fun k => by cases k
  simp -implicitDefEqProofs -dsimp (disch := omega) only [go_sem, dec_t, dec_f, c1]
  refine number_ct (bound := 65) hp hb (Hs.p1 g7) (by omega) (fun page a3 H8 e3 l3 g8 => ?_) (fun e H8 k g8 => ?_)
  rotate_left
  · rw [k, exb_er] at e0
    simp -implicitDefEqProofs -dsimp (disch := omega) only [go_sem, dec_t, dec_f, ]
    exact h2 e _ e0 g8.tail.tail.tail
  rw [e3, exb_ok] at e0
  dsimp only at e0
  have w2 := wr_s (Hs.p2 g8).cel 2
  have g9 := (Hs.p2 g8).put (l' := [.int .i64 (num : Nat), .int .i64 (kind : Nat), .int .i64 (page : Nat), .sl none 0 0 0, .sl none 0 0 0, .bool false, .sl none 0 0 0])
  have c2 := rd_s g9.cel
  have c6 := rd_m (Hs.p2 g9).cel 4
  simp -implicitDefEqProofs -dsimp (disch := omega) only [go_sem, dec_t, dec_f, c2, c6, w2]
  generalize H8.put b2 _ = H9 at *
  refine pagedS hp fun H10 s10 => ?_
  have g10 := g9.keep s10
  have c1 := rd_m (Hs.p3 g10).cel 1
  have c2 := rd_s g10.cel
  simp -implicitDefEqProofs -dsimp (disch := omega) only [go_sem, dec_t, dec_f, ]
  by_cases ip : pagedP (pageK (kind : Nat)) (page : Nat)
  rotate_left
  · rw [if_neg ip] at e0
    rw [dec_f ip]
    refine wrong_ct hp (fun k => by cases k) fun _ => ?_
    simp -implicitDefEqProofs -dsimp (disch := omega) only [go_sem, dec_t, dec_f, ]
    exact h2 161 _ e0 g10.tail.tail.tail.tail
  rw [if_pos ip] at e0
  rw [dec_t ip]
  refine wrong_ct hp (fun _ => ?_) fun k => by cases k
  simp -implicitDefEqProofs -dsimp (disch := omega) only [go_sem, dec_t, dec_f, c1, c2, w64]
  have en : (num : Int) + 1 = ((num + 1 : Nat) : Int) := by omega
  rw [en]
  refine number_ct (bound := num + 1) hp hb (Hs.p1 g10) (by omega) (fun cnt a4 H11 e4 l4 g11 => ?_) (fun e H11 k g11 => ?_)
  rotate_left
  · rw [k, exb_er] at e0
    simp -implicitDefEqProofs -dsimp (disch := omega) only [go_sem, dec_t, dec_f, ]
    exact h2 e _ e0 g11.tail.tail.tail
  rw [e4, exb_ok] at e0
  dsimp only at e0
  have c6 := rd_s (Hs.p2 g11).cel
  by_cases f1 : 0 < cnt ∧ ¬ refsK (kind : Nat)
  · rw [if_pos f1] at e0
    obtain ⟨f1, f2⟩ := f1
    rw [dec_f f2] at c6
    simp -implicitDefEqProofs -dsimp (disch := omega) only [go_sem, dec_t, dec_f, c6]
    refine wrong_ct hp (fun k => by cases k) fun _ => ?_
    simp -implicitDefEqProofs -dsimp (disch := omega) only [go_sem, dec_t, dec_f, ]
    exact h2 161 _ e0 g11.tail.tail.tail.tail
  rw [if_neg f1] at e0
  have g12 := g11.lst (v := .sl none 0 0 0) (e := 1) (n := 0) (L := []) (Same.refl _ _) (own_nil _ _) fun _ h => h.elim
  have g13 : Hs H11 (hdT r bs b1 b2 (num : Nat) (kind : Nat) (page : Nat) a4 [] (.sl none 0 0 0) (Cel b6 [.int .i64 (pageK (kind : Nat)), .bool (decide (refsK (kind : Nat))), .bool (decide (((kind : Nat) : Int) = 2)), .bool (decide (dataK (kind : Nat)))] :: R)) :=
    Hs.perm g12 (by
      unfold hdT hdC
      refine List.Perm.trans (List.Perm.swap ..) (List.Perm.cons _ (List.Perm.trans (List.Perm.swap ..) (List.Perm.cons _ (List.Perm.cons _ (List.Perm.swap ..)))))
      )
  have g1 : 0 < cnt → decide (refsK (kind : Nat)) = true := fun k => dec_t (Classical.not_not.1 fun k2 => f1 ⟨k, k2⟩)
  by_cases z : 0 < cnt
  all_goals
    first
    | rw [g1 z] at c6
    | skip
    simp -implicitDefEqProofs -dsimp (disch := omega) only [go_sem, dec_t, dec_f, c6]
    refine wrong_ct hp (fun _ => ?_) fun k => by cases k
    simp -implicitDefEqProofs -dsimp (disch := omega) only [go_sem, dec_t, dec_f, ]
    refine head_l1 hp hb (b6 := b6) (by omega) (by omega) g13 (fun L a5 v H14 ex e5 hl5 g14 => ?_) (fun e H14 tm k g14 => ?_)
    rotate_left
    · rw [k, exb_er] at e0
      simp -implicitDefEqProofs -dsimp (disch := omega) only [go_sem, dec_t, dec_f, ]
      exact h2 e _ e0 g14.tail
    rw [e5, exb_ok] at e0
    dsimp only at e0
    obtain ⟨va, vc, ve, rfl⟩ := (Hs.p2 g14).own.arr.shape
    have g15 := g14.lst (v := .sl none 0 0 0) (e := 1) (n := 0) (L := []) (Same.refl _ _) (own_nil _ _) fun _ h => h.elim
    have g16 : Hs H14 (hkT r bs b1 b2 (num : Nat) (kind : Nat) (page : Nat) (.sl va L.length vc ve) a5 [] (.sl none 0 0 0) (Lst (.sl va L.length vc ve) 1 L.length (i64s L) :: Cel b6 [.int .i64 (pageK (kind : Nat)), .bool (decide (refsK (kind : Nat))), .bool (decide (((kind : Nat) : Int) = 2)), .bool (decide (dataK (kind : Nat)))] :: R)) :=
      Hs.perm g15 (List.Perm.trans (List.Perm.swap ..) (List.Perm.cons _ (List.Perm.trans (List.Perm.swap ..) (List.Perm.cons _ (List.Perm.cons _ (List.Perm.swap ..))))))
    simp -implicitDefEqProofs -dsimp (disch := omega) only [go_sem, dec_t, dec_f, ]
    refine head_l0 hp hb (b6 := b6) (by omega) rfl g16 (fun K a6 w H17 ex2 e6 hl6 g17 => ?_) (fun e H17 tm k g17 => ?_)
    rotate_left
    · rw [k, exb_er] at e0
      simp -implicitDefEqProofs -dsimp (disch := omega) only [go_sem, dec_t, dec_f, ]
      exact h2 e _ e0 g17.tail.tail
    rw [e6, exb_ok] at e0
    dsimp only at e0
    have c1 := rd_m (Hs.p3 g17).cel 1
    simp -implicitDefEqProofs -dsimp (disch := omega) only [go_sem, dec_t, dec_f, c1]
    refine flag_ct hp hb g17 (fun st a7 H18 e7 g18 => ?_) (fun e H18 k g18 => ?_)
    rotate_left
    · rw [k, exb_er] at e0
      simp -implicitDefEqProofs -dsimp (disch := omega) only [go_sem, dec_t, dec_f, ]
      exact h2 e _ e0 g18.tail.tail.tail.tail.tail
    rw [e7, exb_ok] at e0
    dsimp only at e0
    obtain ⟨wa, wc, we, rfl⟩ := (Hs.p2 g18).own.arr.shape
    have w2 := wr_s (Hs.p1 g18).cel 5
    have g19 := (Hs.p1 g18).put (l' := [.int .i64 (num : Nat), .int .i64 (kind : Nat), .int .i64 (page : Nat), .sl va L.length vc ve, .sl wa K.length wc we, .bool st, .sl none 0 0 0])
    have c2 := rd_s g19.cel
    have c6 := rd_s (Hs.p5 g19).cel
    have c1 := rd_s (Hs.p3 g19).cel
    unfold hkC at w2
    by_cases f2 : st = true ∧ ¬ ((kind : Nat) : Int) = 2
    · rw [if_pos f2] at e0
      obtain ⟨rfl, f2⟩ := f2
      rw [dec_f f2] at c6
      simp -implicitDefEqProofs -dsimp (disch := omega) only [go_sem, dec_t, dec_f, w2, c2, c6]
      refine wrong_ct hp (fun k => by cases k) fun _ => ?_
      simp -implicitDefEqProofs -dsimp (disch := omega) only [go_sem, dec_t, dec_f, ]
      exact h2 161 _ e0 g19.tail.tail.tail.tail.tail.tail
    rw [if_neg f2] at e0
    have g2 : st = true → decide (((kind : Nat) : Int) = 2) = true := fun k => dec_t (Classical.not_not.1 fun k2 => f2 ⟨k, k2⟩)
    cases st
    all_goals
      first
      | rw [g2 rfl] at c6
      | skip
      simp -implicitDefEqProofs -dsimp (disch := omega) only [go_sem, dec_t, dec_f, w2, c2, c6]
      refine wrong_ct hp (fun _ => ?_) fun k => by cases k
      simp -implicitDefEqProofs -dsimp (disch := omega) only [go_sem, dec_t, dec_f, c1]
      refine rAlignA hb (Hs.p1 g19) fun H20 g20 => ?_
      simp -implicitDefEqProofs -dsimp (disch := omega) only [go_sem, dec_t, dec_f, ]
      refine aligned hp (fun k => ?_) (fun e k => ?_)
      rotate_left
      · rw [k, exb_er] at e0
        simp -implicitDefEqProofs -dsimp (disch := omega) only [go_sem, dec_t, dec_f, ]
        exact h2 e _ e0 g20.tail.tail.tail.tail.tail.tail
      rw [k, exb_ok] at e0
      clear c1 c2 c6
      have c1 := rd_m (Hs.p3 g20).cel 1
      simp -implicitDefEqProofs -dsimp (disch := omega) only [go_sem, dec_t, dec_f, c1]
      refine number_ct (bound := 67108865) hp hb g20 (by omega) (fun len a8 H21 e8 l8 g21 => ?_) (fun e H21 k g21 => ?_)
      rotate_left
      · rw [k, exb_er] at e0
        simp -implicitDefEqProofs -dsimp (disch := omega) only [go_sem, dec_t, dec_f, ]
        exact h2 e _ e0 g21.tail.tail.tail.tail.tail
      rw [e8, exb_ok] at e0
      dsimp only at e0
      have c6 := rd_s (Hs.p5 g21).cel
      have r2 := rd_m (Hs.p1 g21).cel 7
      have w2 := wr_s (Hs.p1 g21).cel 0
      by_cases f3 : 0 < len ∧ ¬ dataK (kind : Nat)
      · rw [if_pos f3] at e0
        obtain ⟨f3, f4⟩ := f3
        rw [dec_f f4] at c6
        simp -implicitDefEqProofs -dsimp (disch := omega) only [go_sem, dec_t, dec_f, c6]
        refine wrong_ct hp (fun k => by cases k) fun _ => ?_
        simp -implicitDefEqProofs -dsimp (disch := omega) only [go_sem, dec_t, dec_f, ]
        exact h2 161 _ e0 g21.tail.tail.tail.tail.tail.tail
      rw [if_neg f3] at e0
      have g3 : 0 < len → decide (dataK (kind : Nat)) = true := fun k => dec_t (Classical.not_not.1 fun k2 => f3 ⟨k, k2⟩)
      have fin := fun H' => h1 _ len a8 (.sl va L.length vc ve) (.sl wa K.length wc we) H' e0 rfl
      have g22 := fun l' => (Hs.p1 g21).put (l' := l')
      have r3 := fun l' => rd_m (g22 l').cel 7
      have g23 := fun l' => Hs.p1 (Hs.p3 (Hs.p3 (Hs.p3 (g22 l').tail)).tail).tail
      by_cases z3 : 0 < len
      all_goals
        first
        | rw [g3 z3] at c6
        | skip
        simp -implicitDefEqProofs -dsimp (disch := omega) only [go_sem, dec_t, dec_f, c6]
        refine wrong_ct hp (fun _ => ?_) fun k => by cases k
        simp -implicitDefEqProofs -dsimp (disch := omega) only [go_sem, dec_t, dec_f, r2, w2, r3]
        exact fin _ (g23 _)
end
end Go.Ab
namespace Go.Ab
def decR (f : List Nat) (p : Int) : Except Int (Sg × Nat × Nat) :=
  if p < 0 ∨ (f.length : Int) < p then .error 163 else
    exb (headR ((f.drop p.toNat).take 131136)) fun q => .ok (q.1, q.2.1, p.toNat + ((f.drop p.toNat).take 131136).length - (8 * ((f.drop p.toNat).take 131136).length - q.2.2) / 8)
def dec1C : Cd := match segment_Decode_1.body with | .recov _ c => c | _ => .skip
theorem rec1 {P : Prog} (hp : HasSeg P) : recOf P 162 = some (segment_Decode_1, 7, dec1C) := by unfold recOf; rw [hp.h_segment_Decode_1]; rfl
def zeroC : List V := [.int .i64 0, .int .i64 0, .int .i64 0, .sl none 0 0 0, .sl none 0 0 0, .bool false, .sl none 0 0 0]
section
variable {P : Prog} {H : Heap} {R : List As} {Q : Out → Heap → Prop}
theorem u8s_sub (f : List Nat) (k m : Nat) : ((u8s f).drop k).take m = u8s ((f.drop k).take m) := by simp [u8s, List.map_take, List.map_drop]
/-- The deferred function is told of a fault. -/
theorem rec_fault {c4 c5 c6 c7 : Nat} {e : Int} {l4 : List V} {x5 x6 x7 : V} (hs : Hs H (Cel c4 l4 :: Cel c5 [x5] :: Cel c6 [x6] :: Cel c7 [x7] :: R)) (hl : l4.length = 7) {K : Heap → Prop}
    (hK : ∀ H', Hs H' (Cel c4 zeroC :: Cel c5 [.int .i64 0] :: Cel c6 [.int .i64 0] :: Cel c7 [.int .i64 e] :: R) → K H') :
    wpC (Call P) dec1C (finR [] K) ⟨(7, flt e) :: frame0 0 [.ptr (some (c4, 0)), .ptr (some (c5, 0)), .ptr (some (c6, 0)), .ptr (some (c7, 0))], []⟩ H := by
  unfold dec1C segment_Decode_1 flt
  have h1 := hs.alloc (l := [.int .i64 e])
  have c1 := rd_s h1.cel
  have ne : ¬ c4 = H.next := by have := hs.celt; omega
  have g1 := Hs.p1 h1
  have w4 : ∀ vs, wrN H [.int .i64 e] c4 0 vs = _ := fun vs => wr_s g1.cel 0 vs
  have g2 := g1.put (l' := zeroC)
  have r2 := rd_s (Hs.p1 g2).cel
  have w5 := wr_s (Hs.p2 g2).cel 0
  have g3 := (Hs.p2 g2).put (l' := [.int .i64 0])
  have r3 := rd_s (Hs.p2 g3).cel
  have w6 := wr_s (Hs.p3 g3).cel 0
  have g4 := (Hs.p3 g3).put (l' := [.int .i64 0])
  have r4 := rd_s (Hs.p3 g4).cel
  have w7 := wr_s (Hs.p4 g4).cel 0
  have g5 := (Hs.p4 g4).put (l' := [.int .i64 e])
  obtain ⟨a, b, c, d, e', f, g, rfl⟩ : ∃ a b c d e f g, l4 = [a, b, c, d, e, f, g] := by
    match l4, hl with
    | [a, b, c, d, e, f, g], _ => exact ⟨a, b, c, d, e, f, g, rfl⟩
  unfold zeroC at *
  simp -implicitDefEqProofs -dsimp (disch := omega) only [go_sem, dec_t, dec_f, frame0, c1, ne, w4]
  refine aft_intro (t := tag _) (by simp [rechecks, recheck, fresh, Fr.get, Fr.put, look, step, opd, r2]) ?_
  simp -implicitDefEqProofs -dsimp (disch := omega) only [go_sem, dec_t, dec_f, w5]
  refine aft_intro (t := tag _) (by simp [rechecks, recheck, fresh, Fr.get, Fr.put, look, step, opd, r3]) ?_
  simp -implicitDefEqProofs -dsimp (disch := omega) only [go_sem, dec_t, dec_f, w6]
  refine aft_intro (t := tag _) (by simp [rechecks, recheck, fresh, Fr.get, Fr.put, look, step, opd, r4]) ?_
  simp -implicitDefEqProofs -dsimp (disch := omega) only [go_sem, dec_t, dec_f, w7]
  exact hK _ (Hs.perm g5.p4.tail (by
    refine List.Perm.trans ?_ (List.Perm.refl _)
    exact ((List.reverse_perm [Cel c4 [V.int .i64 0, .int .i64 0, .int .i64 0, .sl none 0 0 0, .sl none 0 0 0, .bool false, .sl none 0 0 0], Cel c5 [.int .i64 0], Cel c6 [.int .i64 0], Cel c7 [.int .i64 e]]).append_right R)))
theorem rec_none {a b c d : V} {K : Heap → Prop} (hK : K H) : wpC (Call P) dec1C (finR [] K) ⟨(7, .nilifc) :: frame0 0 [a, b, c, d], []⟩ H := by
  unfold dec1C segment_Decode_1
  simp -implicitDefEqProofs -dsimp (disch := omega) only [go_sem, dec_t, dec_f, frame0]
  exact hK
set_option maxHeartbeats 1000000 in
theorem decode_ct (hp : HasSeg P) (hb : HasBits P) {y : V} {f : List Nat} {p : Int} (hp64 : r64 p) (hy : Arr H y 1 f.length (u8s f)) (hf : ∀ b ∈ f, b < 256) (hl : f.length ≤ 140737488355328) (hs : Hs H R)
    (h1 : ∀ s len a v1 v2 H', decR f p = .ok (s, len, a) → s.data = [] → Hs H' (Lst v1 1 s.refs.length (i64s s.refs) :: Lst v2 1 s.keep.length (bools s.keep) :: R) → Q (.ret (.tup [.agg (s.cells v1 v2 (.sl none 0 0 0)), .int .i64 (len : Nat), .int .i64 (a : Nat), .int .i64 0])) H')
    (h2 : ∀ e H', decR f p = .error e → Hs H' R → Q (.ret (.tup [.agg zeroC, .int .i64 0, .int .i64 0, .int .i64 e])) H') : Call P 163 [y, .int .i64 p] H Q := by
  refine call_of hp.h_segment_Decode rfl ?_
  have g := (((hs.alloc (l := zeroC)).alloc (l := [.int .i64 0])).alloc (l := [.int .i64 0])).alloc (l := [.int .i64 0])
  simp only [next_new] at g
  have sm : Same (fun _ => False) H ((((H.new (.cells zeroC true)).new (.cells [.int .i64 0] true)).new (.cells [.int .i64 0] true)).new (.cells [.int .i64 0] true)) :=
    (((((Hs.start H).alloc (l := zeroC)).alloc (l := [.int .i64 0])).alloc (l := [.int .i64 0])).alloc (l := [.int .i64 0])).p4.base
  have hy' := hy.same sm fun _ _ h => h
  obtain ⟨ya, yc, ye, hys⟩ := hy.shape
  have g : Hs _ (Cel (H.next + 1 + 1 + 1) [.int .i64 0] :: Cel (H.next + 1 + 1) [.int .i64 0] :: Cel (H.next + 1) [.int .i64 0] :: Cel H.next zeroC :: R) := g
  have n45 : ¬ H.next = H.next + 1 := by omega
  unfold zeroC at g sm hy'
  unfold r64 at hp64
  unfold decR at h1 h2
  rw [hys]
  simp -implicitDefEqProofs -dsimp (disch := omega) only [go_sem, dec_t, dec_f, ]
  rw [← hys]
  generalize hH1 : (((H.new _).new _).new _).new _ = H1 at g ⊢
  rw [hH1] at hy'
  clear sm hH1
  generalize H.next + 1 + 1 + 1 = b7 at *
  generalize H.next + 1 + 1 = b6 at *
  generalize H.next + 1 = b5 at *
  generalize H.next = b4 at *
  have g := Hs.perm g (List.reverse_perm [Cel b4 [.int .i64 0, .int .i64 0, .int .i64 0, .sl none 0 0 0, .sl none 0 0 0, .bool false, .sl none 0 0 0], Cel b5 [.int .i64 0], Cel b6 [.int .i64 0], Cel b7 [.int .i64 0]] |>.append_right R)
  have g : Hs H1 (Cel b4 [.int .i64 0, .int .i64 0, .int .i64 0, .sl none 0 0 0, .sl none 0 0 0, .bool false, .sl none 0 0 0] :: Cel b5 [.int .i64 0] :: Cel b6 [.int .i64 0] :: Cel b7 [.int .i64 0] :: R) := g
  rcases (show (p < 0 ∨ (0 ≤ p ∧ (f.length : Int) < p)) ∨ (0 ≤ p ∧ p ≤ f.length) by omega) with q | ⟨q, q2⟩
  · rw [if_pos (by omega)] at h2
    rw [hys]
    have w4 := wr_s g.cel 0
    have g2 := g.put (l' := zeroC)
    have w5 := wr_s (Hs.p1 g2).cel 0
    have g3 := (Hs.p1 g2).put (l' := [.int .i64 0])
    have w6 := wr_s (Hs.p2 g3).cel 0
    have g4 := (Hs.p2 g3).put (l' := [.int .i64 0])
    have w7 := wr_s (Hs.p3 g4).cel 0
    have g5 := (Hs.p3 g4).put (l' := [.int .i64 163])
    have r4 := rd_m (Hs.p3 g5).cel 7
    have r5 := rd_s (Hs.p2 g5).cel
    have r6 := rd_s (Hs.p1 g5).cel
    have r7 := rd_s g5.cel
    unfold zeroC at *
    rcases q with q | ⟨q, q2⟩
    all_goals
      simp -implicitDefEqProofs -dsimp (disch := omega) only [go_sem, dec_t, dec_f, w4, w5, w6, w7]
      refine fin_rR (rec1 hp) rfl (rec_none ?_)
      simp -implicitDefEqProofs -dsimp (disch := omega) only [go_sem, dec_t, dec_f, r4, r5, r6, r7]
      exact h2 163 _ rfl g5.tail.tail.tail.tail
  · rw [if_neg (by omega)] at h1 h2
    obtain ⟨k, rfl⟩ : ∃ k : Nat, p = (k : Nat) := ⟨p.toNat, by omega⟩
    have hk : k ≤ f.length := by omega
    simp only [Int.toNat_natCast] at h1 h2
    generalize hpart : (f.drop k).take 131136 = part at *
    have hpl : part.length = min 131136 (f.length - k) := by rw [← hpart]; simp
    have hps : ∀ b ∈ part, b < 256 := fun b hb => hf b (List.mem_of_mem_drop (List.mem_of_mem_take (hpart ▸ hb)))
    have hmin : ∃ m : Nat, m ≤ f.length ∧ k ≤ m ∧ m = k + part.length ∧ (if (k : Int) + 131136 < f.length then (k : Int) + 131136 else (f.length : Int)) = (m : Int) := by
      refine ⟨k + part.length, by omega, by omega, rfl, ?_⟩
      split <;> omega
    obtain ⟨m, m1, m2, m3, m4⟩ := hmin
    rw [hys] at hy'
    obtain ⟨z, hz, hza, _⟩ := slc_arr hy' (k := .i64) (k' := .i64) (lo := k) (hi := m) m2 m1
    have hza : Arr H1 z 1 part.length (u8s part) := by
      rw [show m - k = part.length by omega, Nat.mul_one, Nat.mul_one, u8s_sub] at hza
      have e : (f.drop k).take part.length = part := by
        rw [← hpart, List.length_take, List.length_drop]
        by_cases hx : 131136 ≤ f.length - k
        · rw [Nat.min_eq_left hx]
        · rw [Nat.min_eq_right (by omega), List.take_of_length_le (by simp), List.take_of_length_le (by simp; omega)]
      rw [e] at hza
      exact hza
    rw [hys]
    simp -implicitDefEqProofs -dsimp (disch := omega) only [go_sem, dec_t, dec_f, w64, m4, hz]
    refine newReaderA hb g hza hps (by omega) fun r H2 g2 => ?_
    obtain ⟨za, zc, ze, rfl⟩ := hza.shape
    have g3 := g2.alloc (l := [.ptr (some (r, 0))])
    have r3 := rd_m g3.cel 1
    simp -implicitDefEqProofs -dsimp (disch := omega) only [go_sem, dec_t, dec_f, r3]
    generalize H2.new _ = H3 at *
    generalize H2.next = b9 at *
    refine head_ct hp hb (Hs.p1 g3) (fun s len a v1 v2 H4 e1 hd g4 => ?_) (fun e H4 k g4 => ?_)
    rotate_left
    · rw [k, exb_er] at h2
      simp -implicitDefEqProofs -dsimp (disch := omega) only [go_sem, dec_t, dec_f, ]
      refine fin_pR (rec1 hp) rfl (rec_fault g4.tail rfl fun H5 g5 => ?_)
      have q4 := rd_m g5.cel 7
      have q5 := rd_s (Hs.p1 g5).cel
      have q6 := rd_s (Hs.p2 g5).cel
      have q7 := rd_s (Hs.p3 g5).cel
      unfold zeroC at *
      simp -implicitDefEqProofs -dsimp (disch := omega) only [go_sem, dec_t, dec_f, q4, q5, q6, q7]
      exact h2 e _ rfl g5.tail.tail.tail.tail
    rw [e1, exb_ok] at h1
    dsimp only at h1
    have rm := rRoom g4
    obtain ⟨v1a, v1c, v1e, rfl⟩ := (Hs.p1 g4).own.arr.shape
    obtain ⟨v2a, v2c, v2e, rfl⟩ := (Hs.p2 g4).own.arr.shape
    have h1 := fun v1 v2 H' => h1 s len _ v1 v2 H' rfl hd
    obtain ⟨num, kind, page, refs, keep, stay, data⟩ := s
    unfold Sg.cells at h1 ⊢
    dsimp only at *
    have w4 := wr_s (Hs.p4 g4).cel 0
    have g5 := (Hs.p4 g4).put (l' := [.int .i64 num, .int .i64 kind, .int .i64 page, .sl v1a refs.length v1c v1e, .sl v2a keep.length v2c v2e, .bool stay, .sl none 0 0 0])
    have w5 := wr_s (Hs.p5 g5).cel 0
    have g6 := (Hs.p5 g5).put (l' := [.int .i64 (len : Nat)])
    have r4 := rd_m (Hs.p1 g6).cel 7
    have r5 := rd_s g6.cel
    have r9 := rd_s (Hs.p5 g6).cel
    simp -implicitDefEqProofs -dsimp (disch := omega) only [go_sem, dec_t, dec_f, w4, w5, r4, r5, r9]
    have g7 := Hs.p2 g6
    refine rLeftA hb g7 ?_
    simp -implicitDefEqProofs -dsimp (disch := omega) only [go_sem, dec_t, dec_f, ]
    refine aft_intro (t := tag _) (by simp [rechecks, recheck, fresh, Fr.get, Fr.put, look, step, opd, r4, r5, piece]) ?_
    have e8 : (k : Int) + part.length - ((8 * part.length - a : Nat) : Int) / 8 = ((k + part.length - (8 * part.length - a) / 8 : Nat) : Int) := by omega
    have w4 := wr_s (Hs.p2 g7).cel 0
    have g8 := (Hs.p2 g7).put (l' := [.int .i64 num, .int .i64 kind, .int .i64 page, .sl v1a refs.length v1c v1e, .sl v2a keep.length v2c v2e, .bool stay, .sl none 0 0 0])
    have r5 := rd_s (Hs.p2 g8).cel
    have w5 := wr_s (Hs.p2 g8).cel 0
    have g9 := (Hs.p2 g8).put (l' := [.int .i64 (len : Nat)])
    have g9 := (Hs.p2 (Hs.p5 g9).tail).tail
    have w6 := wr_s (Hs.p4 g9).cel 0
    have g10 := (Hs.p4 g9).put (l' := [.int .i64 ((k + part.length - (8 * part.length - a) / 8 : Nat) : Int)])
    have w7 := wr_s (Hs.p5 g10).cel 0
    have g11 := (Hs.p5 g10).put (l' := [.int .i64 0])
    have q4 := rd_m (Hs.p3 g11).cel 7
    have q5 := rd_s (Hs.p2 g11).cel
    have q6 := rd_s (Hs.p1 g11).cel
    have q7 := rd_s g11.cel
    simp -implicitDefEqProofs -dsimp (disch := omega) only [go_sem, dec_t, dec_f, tdivN, e8, w64, w4]
    refine aft_intro (t := tag _) (by simp [rechecks, recheck, fresh, Fr.get, Fr.put, look, step, opd, r5]) ?_
    simp -implicitDefEqProofs -dsimp (disch := omega) only [go_sem, dec_t, dec_f, w5, w6, w7]
    refine fin_rR (rec1 hp) rfl (rec_none ?_)
    simp -implicitDefEqProofs -dsimp (disch := omega) only [go_sem, dec_t, dec_f, q4, q5, q6, q7]
    exact h1 _ _ _ g11.tail.tail.tail.tail
end
end Go.Ab
namespace Go.Ab
theorem numR_of {bs : List Nat} {bd a n a' : Nat} (h : rVar bs a = (n, 0, a')) (hn : n < bd) : numR bs bd a = .ok (n, a') := by
  unfold numR
  rw [h]
  rw [if_neg (by simp), if_neg (by simp), if_neg (by dsimp only; omega)]
section
variable {T : List Nat} {k : Nat} (hk : k ≤ T.length)
include hk
end
end Go.Ab
namespace Go.Ab
section
variable {bs : List Nat} (hs : ∀ b ∈ bs, b < 256)
include hs
theorem told_at {p q : List Nat} (e : bs = p ++ q) {i : Nat} (hi : i < q.length) : toldN bs (8 * p.length + 8 * i) 8 = q[i] := by
  have hl : p.length + i < bs.length := by rw [e, List.length_append]; omega
  have := told8_byte hl hs
  rw [show 8 * p.length + 8 * i = 8 * (p.length + i) by omega, this]
  subst e
  rw [List.getElem_append_right (by omega)]
  simp
end
end Go.Ab
namespace Go.Ab
theorem zero_told {bs : List Nat} {a : Nat} : ∀ {w : Nat}, (∀ i, i < w → bitAt bs (a + i) = false) → toldN bs a w = 0
  | 0, _ => rfl
  | w + 1, h => by rw [toldN, zero_told fun i hi => h i (by omega), h w (by omega)]; rfl
def withData (s : Sg) (d : List Nat) : Sg := ⟨s.num, s.kind, s.page, s.refs, s.keep, s.stay, d⟩
end Go.Ab
namespace Go.Ab
section
variable {bs : List Nat} (hs : ∀ b ∈ bs, b < 256)
include hs
theorem num_fwd {p q : List Nat} {n bd : Nat} (e : bs = p ++ groups n ++ q) (hn : n < bd) (hb : n < 18446744073709551616) : numR bs bd (8 * p.length) = .ok (n, 8 * (p ++ groups n).length) := by
  refine numR_of ?_ hn
  rw [rVar_go hb]
  · rw [List.length_append]; congr 2; omega
  · rw [e, List.length_append, List.length_append]; omega
  · intro i hi
    have e2 : bs = p ++ (groups n ++ q) := by rw [e, List.append_assoc]
    rw [told_at hs e2 (by rw [List.length_append]; omega), List.getElem_append_left hi]
theorem tak_fwd {p q : List Nat} {n : Nat} (e : bs = p ++ [n] ++ q) : takR bs (8 * p.length) 8 = .ok (n, 8 * (p ++ [n]).length) := by
  have e2 : bs = p ++ (n :: q) := by rw [e]; simp
  have ht := told_at hs e2 (i := 0) (by simp)
  simp only [Nat.mul_zero, Nat.add_zero, List.getElem_cons_zero] at ht
  have hl : bs.length = p.length + 1 + q.length := by rw [e]; simp; omega
  unfold takR rTake
  rw [if_neg (show ¬ ((8 : Int) < 0 ∨ 64 < (8 : Int)) by omega), if_neg (show ¬ (8 * (bs.length : Int) - (8 * p.length : Nat) < 8) by omega)]
  rw [if_neg (by simp), if_neg (by simp)]
  simp only [show (8 : Int).toNat = 8 from rfl, ht]
  rw [List.length_append, List.length_singleton]; congr 2
theorem refs_fwd {num : Nat} (hnum : num ≤ 32768) : ∀ {L : List Int} {ah : Int} {p q : List Nat}, -1 ≤ ah → incrF num ah L = true → bs = p ++ (L.flatMap fun n => groups n.toNat) ++ q →
    refsR bs num L.length ah (8 * p.length) = .ok (L, 8 * (p ++ L.flatMap fun n => groups n.toNat).length)
  | [], ah, p, q, _, _, e => by simp [refsR]
  | n :: L, ah, p, q, ha, h, e => by
    simp only [incrF, Bool.and_eq_true, decide_eq_true_eq] at h
    obtain ⟨⟨h1, h2⟩, h3⟩ := h
    obtain ⟨m, rfl⟩ : ∃ m : Nat, n = (m : Nat) := ⟨n.toNat, by omega⟩
    rw [List.flatMap_cons, Int.toNat_natCast, ← List.append_assoc] at e ⊢
    rw [List.length_cons, refsR, num_fwd hs (n := m) (q := (L.flatMap fun n => groups n.toNat) ++ q) (by rw [e]; simp) (by omega) (by omega), exb_ok]
    dsimp only
    rw [if_neg (by omega), refs_fwd hnum (by omega) h3 e]
    rfl
theorem bit_at {p q : List Nat} {l : List Bool} (e : bs = p ++ pack l ++ q) {i : Nat} (hi : i < 8 * (pack l).length) : bitAt bs (8 * p.length + i) = l.getD i false := by
  rw [← bitAt_pack]
  unfold bitAt
  rw [show (8 * p.length + i) / 8 = p.length + i / 8 by omega, show (8 * p.length + i) % 8 = i % 8 by omega, e, List.append_assoc, List.getD_eq_getElem?_getD, List.getD_eq_getElem?_getD, List.getElem?_append_right (by omega),
    show p.length + i / 8 - p.length = i / 8 by omega, List.getElem?_append_left (by omega)]
theorem flg_fwd {p q : List Nat} {l : List Bool} (e : bs = p ++ pack l ++ q) {i : Nat} (hi : i < l.length) : flgR bs (8 * p.length + i) = .ok (l[i], 8 * p.length + (i + 1)) := by
  have hpk := pack_length l
  have hb := bit_at hs e (i := i) (by omega)
  rw [List.getD_eq_getElem?_getD, List.getElem?_eq_getElem hi, Option.getD_some] at hb
  have hl : bs.length = p.length + (pack l).length + q.length := by rw [e]; simp; omega
  have ht : takR bs (8 * p.length + i) 1 = .ok ((l[i]).toNat, 8 * p.length + (i + 1)) := by
    unfold takR rTake
    rw [if_neg (show ¬ ((1 : Int) < 0 ∨ 64 < (1 : Int)) by omega), if_neg (show ¬ (8 * (bs.length : Int) - (8 * p.length + i : Nat) < 1) by omega)]
    rw [if_neg (by simp), if_neg (by simp)]
    simp only [show (1 : Int).toNat = 1 from rfl, toldN, Nat.mul_zero, Nat.zero_add, Nat.add_zero, hb]
    rfl
  unfold flgR
  rw [ht, exb_ok]
  cases l[i] <;> rfl
theorem keep_fwd {p q : List Nat} {l : List Bool} (e : bs = p ++ pack l ++ q) : ∀ {m i : Nat}, i + m ≤ l.length → keepR bs m (8 * p.length + i) = .ok ((l.drop i).take m, 8 * p.length + (i + m))
  | 0, i, _ => by simp [keepR]
  | m + 1, i, h => by
    rw [keepR, flg_fwd hs e (by omega), exb_ok]
    dsimp only
    rw [keep_fwd e (m := m) (i := i + 1) (by omega), exb_ok, List.drop_eq_getElem_cons (i := i) (by omega), List.take_succ_cons]
    congr 2; omega
theorem aln_fwd {p q : List Nat} {l : List Bool} (e : bs = p ++ pack l ++ q) : alnR bs (8 * p.length + l.length) = .ok (8 * (p ++ pack l).length) := by
  have hpk := pack_length l
  have hz : toldN bs (8 * p.length + l.length) ((8 - (8 * p.length + l.length) % 8) % 8) = 0 := zero_told fun i hi => by
    have := bit_at hs e (i := l.length + i) (by omega)
    rw [Nat.add_assoc, this, List.getD_eq_getElem?_getD, List.getElem?_eq_none (by omega)]; rfl
  unfold alnR rAlign
  rw [hz, if_neg (show ¬ ((0 : Nat) ≠ 0) by simp), if_neg (by simp), if_neg (by simp)]
  rw [List.length_append, hpk]
  congr 1
  dsimp only; omega
end
theorem head_fwd {s : Sg} (hm : May s) {q : List Nat} (hq : ∀ b ∈ q, b < 256) : headR (hdr s ++ q) = .ok (withData s [], s.data.length, 8 * (hdr s).length) := by
  have hk := hm.kind
  have hpg := hm.page
  have hnn := hm.n0
  have hn1 := hm.n1
  have hin := hm.incr
  have hml := may_len hm
  have hkl := hm.keep
  have hdl := hm.most
  have hk2 := hk
  have hr := hm.refs
  have hst := hm.stay
  have hdt := hm.data
  unfold kindOk at hk2
  have hb : ∀ b ∈ hdr s ++ q, b < 256 := fun b h => by
    rcases List.mem_append.1 h with h | h
    · exact hdr_lt (by omega) b h
    · exact hq b h
  have hpg2 : 0 ≤ s.page ∧ s.page ≤ 64 := by unfold pagedP at hpg; omega
  obtain ⟨num, kind, page, refs, keep, stay, data⟩ := s
  dsimp only at *
  obtain ⟨num, rfl⟩ : ∃ m : Nat, num = (m : Nat) := ⟨num.toNat, by omega⟩
  obtain ⟨kind, rfl⟩ : ∃ m : Nat, kind = (m : Nat) := ⟨kind.toNat, by omega⟩
  obtain ⟨page, rfl⟩ : ∃ m : Nat, page = (m : Nat) := ⟨page.toNat, by omega⟩
  generalize hbs : hdr ⟨(num : Nat), (kind : Nat), (page : Nat), refs, keep, stay, data⟩ ++ q = bs at *
  have eb : bs = groups num ++ [kind] ++ groups page ++ groups refs.length ++ (refs.flatMap fun n => groups n.toNat) ++ pack (keep ++ [stay]) ++ groups data.length ++ q := by
    rw [← hbs]; unfold hdr hdA; simp only [Int.toNat_natCast, List.append_assoc]
  have el : 8 * (hdr ⟨(num : Nat), (kind : Nat), (page : Nat), refs, keep, stay, data⟩).length = 8 * (groups num ++ [kind] ++ groups page ++ groups refs.length ++ (refs.flatMap fun n => groups n.toNat) ++ pack (keep ++ [stay]) ++ groups data.length).length := by
    unfold hdr hdA; simp only [Int.toNat_natCast]
  rw [el]
  unfold headR
  have s1 := num_fwd hb (p := []) (n := num) (bd := 32768) (q := [kind] ++ groups page ++ groups refs.length ++ (refs.flatMap fun n => groups n.toNat) ++ pack (keep ++ [stay]) ++ groups data.length ++ q) (by rw [eb]; simp only [List.append_assoc, List.nil_append]) (by omega) (by omega)
  rw [List.nil_append, List.length_nil, Nat.mul_zero] at s1
  rw [s1, exb_ok]
  dsimp only
  rw [tak_fwd hb (p := groups num) (n := kind) (q := groups page ++ groups refs.length ++ (refs.flatMap fun n => groups n.toNat) ++ pack (keep ++ [stay]) ++ groups data.length ++ q) (by rw [eb]; simp only [List.append_assoc]), exb_ok]
  dsimp only
  rw [if_pos hk]
  rw [num_fwd hb (p := groups num ++ [kind]) (n := page) (bd := 65) (q := groups refs.length ++ (refs.flatMap fun n => groups n.toNat) ++ pack (keep ++ [stay]) ++ groups data.length ++ q) (by rw [eb]; simp only [List.append_assoc]) (by omega) (by omega), exb_ok]
  dsimp only
  rw [if_pos hpg]
  rw [num_fwd hb (p := groups num ++ [kind] ++ groups page) (n := refs.length) (bd := num + 1) (q := (refs.flatMap fun n => groups n.toNat) ++ pack (keep ++ [stay]) ++ groups data.length ++ q) (by rw [eb]; simp only [List.append_assoc]) (by omega) (by omega), exb_ok]
  dsimp only
  rw [if_neg (fun k => k.2 (hr k.1))]
  rw [refs_fwd hb (by omega) (by omega) hin (p := groups num ++ [kind] ++ groups page ++ groups refs.length) (q := pack (keep ++ [stay]) ++ groups data.length ++ q) (by rw [eb]; simp only [List.append_assoc]), exb_ok]
  dsimp only
  have e5 : bs = (groups num ++ [kind] ++ groups page ++ groups refs.length ++ refs.flatMap fun n => groups n.toNat) ++ pack (keep ++ [stay]) ++ (groups data.length ++ q) := by rw [eb]; simp only [List.append_assoc]
  generalize hp : groups num ++ [kind] ++ groups page ++ groups refs.length ++ (refs.flatMap fun n => groups n.toNat) = p at *
  have hlen : (keep ++ [stay]).length = refs.length + 1 := by rw [List.length_append, List.length_singleton, hkl]
  have s6 := keep_fwd hb e5 (m := refs.length) (i := 0) (by omega)
  rw [Nat.add_zero, List.drop_zero, ← hkl, List.take_left' rfl, hkl, Nat.zero_add] at s6
  rw [s6, exb_ok]
  dsimp only
  have s7 := flg_fwd hb e5 (i := refs.length) (by omega)
  rw [List.getElem_append_right (by omega)] at s7
  simp only [hkl, Nat.sub_self, List.getElem_cons_zero] at s7
  rw [s7, exb_ok]
  dsimp only
  rw [if_neg (fun k => k.2 (hst k.1))]
  have s8 := aln_fwd hb e5
  rw [hlen] at s8
  rw [s8, exb_ok]
  rw [num_fwd hb (p := p ++ pack (keep ++ [stay])) (n := data.length) (bd := 67108865) (q := q) eb (by omega) (by omega), exb_ok]
  dsimp only
  rw [if_neg (fun k => k.2 (hdt k.1))]
  rfl
theorem groups_lim {n k : Nat} (h : n < 128 ^ (k + 1)) : (groups n).length ≤ k + 1 := by
  rw [groups_len]
  have := cnt_le k (n / 128) (by rw [Nat.pow_succ] at h; omega)
  omega
theorem hdr_len {s : Sg} (hm : May s) : (hdr s).length ≤ 131136 := by
  have hk := hm.kind
  have hpg := hm.page
  have hnn := hm.n0
  have hn1 := hm.n1
  have hin := hm.incr
  have hml := may_len hm
  have hkl := hm.keep
  have hdl := hm.most
  have hpg2 : 0 ≤ s.page ∧ s.page ≤ 64 := by unfold pagedP at hpg; omega
  have g1 := groups_lim (n := s.num.toNat) (k := 2) (by omega)
  have g2 := groups_lim (n := s.page.toNat) (k := 0) (by omega)
  have g3 := groups_lim (n := s.refs.length) (k := 2) (by omega)
  have g4 := groups_lim (n := s.data.length) (k := 3) (by omega)
  have g5 : ∀ l : List Int, (∀ n ∈ l, (-1 : Int) < n ∧ n < s.num) → (l.flatMap fun n => groups n.toNat).length ≤ 3 * l.length := by
    intro l
    induction l with
    | nil => intro _; simp
    | cons n l ih =>
      intro h
      have h1 := h n (by simp)
      have g := groups_lim (n := n.toNat) (k := 2) (by omega)
      have := ih fun m hm => h m (by simp [hm])
      rw [List.flatMap_cons, List.length_append, List.length_cons]; omega
  have g6 := g5 s.refs (incr_all hin)
  have g7 := pack_length (s.keep ++ [s.stay])
  rw [List.length_append, List.length_singleton] at g7
  unfold hdr hdA
  simp only [List.length_append, List.length_singleton]
  omega
end Go.Ab
namespace Go.Ab
theorem dec_fwd {s : Sg} (hm : May s) {x y : List Nat} (hy : ∀ b ∈ y, b < 256) : decR (x ++ hdr s ++ y) (x.length : Nat) = .ok (withData s [], s.data.length, x.length + (hdr s).length) := by
  have hl := hdr_len hm
  unfold decR
  rw [if_neg (by simp only [List.length_append]; omega), Int.toNat_natCast, List.append_assoc, List.drop_left' rfl]
  have e : (hdr s ++ y).take 131136 = hdr s ++ y.take (131136 - (hdr s).length) := by rw [List.take_append, List.take_of_length_le (by omega)]
  rw [e, head_fwd hm fun b hb => hy b (List.mem_of_mem_take hb), exb_ok]
  dsimp only
  congr 3
  rw [List.length_append]; omega
end Go.Ab
namespace Go.Ab
section
variable {P : Prog} {H : Heap} {R : List As} {Q : Out → Heap → Prop}
def flt17 (e : Int) : V := .ifc 1 (.agg [.int .i64 e])
theorem wrong17_ct (hp : HasFw P) {b : Bool} {e : Int} (h1 : b = false → Q (.ret (.tup [])) H) (h2 : b = true → Q (.pan (flt17 e)) H) : Call P 214 [.bool b, .int .i64 e] H Q := by
  refine call_of hp.h_file_wrong rfl ?_
  cases b
  · simp -implicitDefEqProofs -dsimp (disch := omega) only [go_sem, dec_t, dec_f, ]
    exact h1 rfl
  · simp -implicitDefEqProofs -dsimp (disch := omega) only [go_sem, dec_t, dec_f, ]
    exact h2 rfl
theorem need17_ct (hp : HasFw P) {e : Int} (h1 : e = 0 → Q (.ret (.tup [])) H) (h2 : e ≠ 0 → Q (.pan (flt17 e)) H) : Call P 216 [.int .i64 e] H Q := by
  refine call_of hp.h_file_need rfl ?_
  simp -implicitDefEqProofs -dsimp (disch := omega) only [go_sem, dec_t, dec_f, ]
  refine wrong17_ct hp (fun k => ?_) fun k => ?_
  · simp -implicitDefEqProofs -dsimp (disch := omega) only [go_sem, dec_t, dec_f, ]
    exact h1 (by simpa using k)
  · simp -implicitDefEqProofs -dsimp (disch := omega) only [go_sem, dec_t, dec_f, ]
    exact h2 (by simpa using k)
theorem str_bur : strOf [66, 85, 82, 1] = ⟨#[66, 85, 82, 1]⟩ := by decide
set_option maxHeartbeats 1000000 in
theorem opened_ct (hp : HasFw P) (hb : HasBits P) {fb fo fc : Nat} {rnd : Bool} {pages : Nat} {rest : List Nat} (hpg : pages ≤ 64) (hrest : ∀ b ∈ rest, b < 256)
    (hR : ∀ H', Hs H' R → Arr H' (.sl (some (fb, fo)) ([66, 85, 82, 1, if rnd then 1 else 0, pages] ++ rest).length fc 1) 1 ([66, 85, 82, 1, if rnd then 1 else 0, pages] ++ rest).length (u8s ([66, 85, 82, 1, if rnd then 1 else 0, pages] ++ rest)))
    (hl : rest.length ≤ 100000000000000) (hs : Hs H R)
    (hQ : ∀ r rb H', Hs H' (MpA r [] :: Cel rb (ord3 (.sl (some (fb, fo)) ([66, 85, 82, 1, if rnd then 1 else 0, pages] ++ rest).length fc 1) (.int .i64 6) (.bool rnd) pages ⟨0, 0, false, []⟩ r) :: R) → Q (.ret (.ptr (some (rb, 0)))) H') :
    Call P 213 [.sl (some (fb, fo)) ([66, 85, 82, 1, if rnd then 1 else 0, pages] ++ rest).length fc 1] H Q := by
  refine call_of hp.h_file_opened rfl ?_
  obtain ⟨n, hn⟩ : ∃ n, n = ([66, 85, 82, 1, if rnd then 1 else 0, pages] ++ rest).length := ⟨_, rfl⟩
  have hn6 : n = rest.length + 6 := by rw [hn]; simp
  have a0 := hR H hs
  have hfb : ∀ b ∈ ([66, 85, 82, 1, if rnd then 1 else 0, pages] ++ rest : List Nat), b < 256 := fun b hb => by
    rcases List.mem_append.1 hb with h | h
    · simp only [List.mem_cons, List.not_mem_nil, or_false] at h
      rcases h with rfl | rfl | rfl | rfl | rfl | rfl <;> first | omega | (cases rnd <;> decide)
    · exact hrest b h
  rw [← hn] at a0 hQ ⊢
  have s4 := a0.sub (k := 0) (m := 4) (by omega)
  have e4 : ((u8s ([66, 85, 82, 1, if rnd then 1 else 0, pages] ++ rest)).drop (0 * 1)).take (4 * 1) = [.int .u8 66, .int .u8 85, .int .u8 82, .int .u8 1] := rfl
  rw [e4] at s4
  have hcap := a0.cap.1
  simp -implicitDefEqProofs -dsimp (disch := omega) only [go_sem, dec_t, dec_f, ]
  refine ops_b2s (n' := 4) rfl (by simpa using firsts_arr s4) rfl ?_
  rw [str_bur]
  simp -implicitDefEqProofs -dsimp (disch := omega) only [go_sem, dec_t, dec_f, ]
  refine wrong17_ct hp (fun _ => ?_) fun k => (by simp at k)
  have g1 := hs.mnew.alloc (l := [.sl (some (fb, fo)) n fc 1, .int .i64 0, .bool false, .int .i64 0, .int .i64 0, .int .i64 0, .int .i64 0, .map (some H.next)])
  simp -implicitDefEqProofs -dsimp (disch := omega) only [go_sem, dec_t, dec_f, ]
  generalize (H.new (.map [])).new _ = H1 at *
  generalize hb1 : (H.new (.map [])).next = rb at *
  rw [next_new] at hb1
  rw [hb1]
  generalize H.next = r at *
  have a1 := hR H1 g1.tail.tail
  rw [← hn] at a1
  have t4 := a1.sub (k := 4) (m := n - 4) (by omega)
  rw [Nat.mul_one, Nat.mul_one, u8s_sub] at t4
  rw [List.take_of_length_le (by rw [List.length_drop, ← hn]; omega)] at t4
  have ed : ([66, 85, 82, 1, if rnd then 1 else 0, pages] ++ rest).drop 4 = ((if rnd then 1 else 0) :: pages :: rest) := rfl
  rw [ed] at t4
  have hbl : ((if rnd then 1 else 0) :: pages :: rest : List Nat).length = n - 4 := by simp; omega
  rw [← hbl] at t4
  have t4' : Arr H1 (.sl (some (fb, fo + 4)) (n - 4) (fc - 4) 1) 1 ((if rnd then 1 else 0) :: pages :: rest : List Nat).length (u8s ((if rnd then 1 else 0) :: pages :: rest)) := by rw [← hbl]; exact t4
  have hsb : ∀ b ∈ ((if rnd then 1 else 0) :: pages :: rest : List Nat), b < 256 := fun b hb => hfb b (by
    have : b ∈ ([66, 85, 82, 1, if rnd then 1 else 0, pages] ++ rest).drop 4 := by rw [ed]; exact hb
    exact List.mem_of_mem_drop this)
  refine newReaderA hb g1 t4' hsb (by rw [hbl]; omega) fun rd H2 g2 => ?_
  have k8 : rTake ((if rnd then 1 else 0) :: pages :: rest) 0 8 = ((if rnd then 1 else 0), 0, 8) := by
    have ht := told_at hsb (p := []) (q := (if rnd then 1 else 0) :: pages :: rest) rfl (i := 0) (by simp)
    simp only [List.length_nil, Nat.mul_zero, Nat.add_zero, List.getElem_cons_zero] at ht
    unfold rTake
    rw [if_neg (by omega), if_neg (by rw [hbl]; omega)]
    simp only [show (8 : Int).toNat = 8 from rfl, ht, Nat.zero_add]
  have kv : rVar ((if rnd then 1 else 0) :: pages :: rest) 8 = (pages, 0, 16) := by
    have hg : groups pages = [pages] := by rw [groups, if_pos (by omega)]
    rw [rVar_go (n := pages) (by omega) (by rw [hg, hbl]; simp; omega)]
    · rw [hg]; rfl
    · intro i hi
      rw [hg] at hi
      simp only [List.length_singleton] at hi
      obtain rfl : i = 0 := by omega
      have ht := told_at hsb (p := [if rnd then 1 else 0]) (q := pages :: rest) rfl (i := 0) (by simp)
      simpa [hg] using ht
  simp -implicitDefEqProofs -dsimp (disch := omega) only [go_sem, dec_t, dec_f, ]
  refine rTakeA hb g2 fun H3 g3 => ?_
  rw [k8] at g3 ⊢
  dsimp only at g3 ⊢
  simp -implicitDefEqProofs -dsimp (disch := omega) only [go_sem, dec_t, dec_f, ]
  refine wrong17_ct hp (fun _ => ?_) fun k => (by simp at k)
  have kr : ((if rnd then 1 else 0 : Nat) : Int) ≤ 1 := by cases rnd <;> decide
  simp -implicitDefEqProofs -dsimp (disch := omega) only [go_sem, dec_t, dec_f, ]
  refine wrong17_ct hp (fun _ => ?_) fun k => (by simp at k <;> omega)
  simp -implicitDefEqProofs -dsimp (disch := omega) only [go_sem, dec_t, dec_f, ]
  refine rVarA hb g3 fun H4 g4 => ?_
  rw [kv] at g4 ⊢
  dsimp only at g4 ⊢
  simp -implicitDefEqProofs -dsimp (disch := omega) only [go_sem, dec_t, dec_f, ]
  refine wrong17_ct hp (fun _ => ?_) fun k => (by simp at k)
  simp -implicitDefEqProofs -dsimp (disch := omega) only [go_sem, dec_t, dec_f, ]
  refine wrong17_ct hp (fun _ => ?_) fun k => (by simp at k <;> omega)
  simp -implicitDefEqProofs -dsimp (disch := omega) only [go_sem, dec_t, dec_f, ]
  refine rLeftA hb g4 ?_
  have kq : ((8 * (rest.length + 1 + 1) - 16 : Nat) : Int).tdiv 8 = (rest.length : Nat) := by rw [tdivN (by omega)]; omega
  have k6 : (n : Int) - (rest.length : Nat) = 6 := by omega
  have ke : decide (((if rnd then 1 else 0 : Nat) : Int) = 1) = rnd := by cases rnd <;> decide
  have g5 := Hs.p1 g4
  have w1 := wr_s g5.cel 1
  have g6 := g5.put (l' := [.sl (some (fb, fo)) n fc 1, .int .i64 6, .bool false, .int .i64 0, .int .i64 0, .int .i64 0, .int .i64 0, .map (some r)])
  have w2 := wr_s g6.cel 2
  have g7 := g6.put (l' := [.sl (some (fb, fo)) n fc 1, .int .i64 6, .bool rnd, .int .i64 0, .int .i64 0, .int .i64 0, .int .i64 0, .map (some r)])
  have w3 := wr_s g7.cel 5
  have g8 := g7.put (l' := [.sl (some (fb, fo)) n fc 1, .int .i64 6, .bool rnd, .int .i64 0, .int .i64 0, .int .i64 pages, .int .i64 0, .map (some r)])
  simp -implicitDefEqProofs -dsimp (disch := omega) only [go_sem, dec_t, dec_f, kq, k6, ke, w64, w1, w2, w3]
  have g9 := Hs.p1 g8.tail2
  exact hQ r rb _ g9
end
end Go.Ab
namespace Go.Ab
open Go.RowKit (Below)
/-- What an argument is. -/
inductive TD where
  | bool
  | int (k : IntKind)
  | flt (k : FloatKind)
  | str
  | agg (fs : List TD)
  | sl (bytes : Nat) (e : TD)
  | arr (n : Nat) (e : TD)

mutual
def TD.size : TD → Nat
  | .bool => 1
  | .int _ => 1
  | .flt _ => 1
  | .str => 1
  | .agg fs => TD.sizes fs
  | .sl _ _ => 1
  | .arr n e => n * e.size
def TD.sizes : List TD → Nat
  | [] => 0
  | f :: r => f.size + TD.sizes r
end
mutual
def TD.Ty : TD → Type
  | .bool => Bool
  | .int _ => Int
  | .flt _ => Nat
  | .str => ByteArray
  | .agg fs => TD.Tys fs
  | .sl _ e => List e.Ty
  | .arr _ e => List e.Ty
def TD.Tys : List TD → Type
  | [] => Unit
  | f :: r => f.Ty × TD.Tys r
end
/-- A row of cells, element by element. -/
def Split {α : Type} (R : List V → α → Prop) : List V → List α → Prop
  | L, [] => L = []
  | L, x :: xs => ∃ a b, L = a ++ b ∧ R a x ∧ Split R b xs

theorem Split.mono {α : Type} {R S : List V → α → Prop} (h : ∀ a x, R a x → S a x) : ∀ (xs : List α) (L : List V), Split R L xs → Split S L xs
  | [], _, r => r
  | _ :: xs, _, ⟨a, b, e, r, t⟩ => ⟨a, b, e, h _ _ r, Split.mono h xs b t⟩

theorem Split.snoc {α : Type} {R : List V → α → Prop} : ∀ {xs : List α} {L a : List V} {x : α}, Split R L xs → R a x → Split R (L ++ a) (xs ++ [x])
  | [], L, a, x, h, r => by rw [show L = [] from h]; exact ⟨a, [], by simp, r, rfl⟩
  | _ :: xs, _, a, x, ⟨p, q, e, r', t⟩, r => ⟨p, q ++ a, by rw [e, List.append_assoc], r', Split.snoc t r⟩

def inK (k : IntKind) (n : Int) : Prop := k.min ≤ n ∧ n ≤ k.max

mutual
/-- These cells read as that datum. -/
def Is (H : Heap) : (D : TD) → List V → D.Ty → Prop
  | .bool, cs, b => cs = [.bool b]
  | .int k, cs, n => cs = [.int k n] ∧ inK k n
  | .flt k, cs, n => cs = [.flt k n] ∧ (Lit.float k n).wf = true
  | .str, cs, s => cs = [.str s] ∧ s.size ≤ 140737488351232
  | .agg fs, cs, x => IsS H fs cs x
  | .sl bytes e, cs, xs => ∃ v L, cs = [v] ∧ Arr H v e.size (List.length (α := e.Ty) xs) L ∧ Split (Is H e) L xs ∧ List.length (α := e.Ty) xs * bytes ≤ 140737488351232
  | .arr n e, cs, xs => Split (Is H e) cs xs ∧ List.length (α := e.Ty) xs = n
def IsS (H : Heap) : (fs : List TD) → List V → TD.Tys fs → Prop
  | [], cs, _ => cs = []
  | f :: r, cs, x => ∃ a b, cs = a ++ b ∧ Is H f a x.1 ∧ IsS H r b x.2
end
mutual
theorem Is.same {H H' : Heap} (s : Same (fun _ => False) H H') : ∀ (D : TD) (cs : List V) (x : D.Ty), Is H D cs x → Is H' D cs x
  | .bool, _, _, h => h
  | .int _, _, _, h => h
  | .flt _, _, _, h => h
  | .str, _, _, h => h
  | .agg fs, cs, x, h => IsS.same s fs cs x h
  | .sl _ e, cs, xs, ⟨v, L, h1, h2, h3, h4⟩ => ⟨v, L, h1, h2.same s (fun _ _ h => h), Split.mono (fun a x h => Is.same s e a x h) _ _ h3, h4⟩
  | .arr _ e, cs, xs, ⟨h1, h2⟩ => ⟨Split.mono (fun a x h => Is.same s e a x h) _ _ h1, h2⟩
theorem IsS.same {H H' : Heap} (s : Same (fun _ => False) H H') : ∀ (fs : List TD) (cs : List V) (x : TD.Tys fs), IsS H fs cs x → IsS H' fs cs x
  | [], _, _, h => h
  | f :: r, cs, x, ⟨a, b, h1, h2, h3⟩ => ⟨a, b, h1, Is.same s f a x.1 h2, IsS.same s r b x.2 h3⟩
end
mutual
def ckTD (P : Program) : TD → TypeId → Bool
  | .bool, t => match P.underlying t with | some .bool => true | _ => false
  | .int k, t => match P.underlying t with | some (.int k') => decide (k = k') | _ => false
  | .flt k, t => match P.underlying t with | some (.float k') => decide (k = k') | _ => false
  | .str, t => match P.underlying t with | some .string => true | _ => false
  | .agg fs, t => match P.underlying t with | some (.struct fields) => ckTDs P fs fields.toList 0 && P.cellsOf t == TD.sizes fs | _ => false
  | .sl bytes e, t => match P.underlying t with | some (.slice u) => ckTD P e u && P.cellsOf u == e.size && P.bytesOf u == bytes && decide (0 < e.size) | _ => false
  | .arr n e, t => match P.underlying t with | some (.array n' u) => decide (n' = n) && ckTD P e u && P.cellsOf u == e.size && P.cellsOf t == n * e.size | _ => false
def ckTDs (P : Program) : List TD → List Field → Nat → Bool
  | [], [], _ => true
  | D :: r, f :: fs, o => f.offset == o && ckTD P D f.type && P.cellsOf f.type == D.size && ckTDs P r fs (o + D.size)
  | _, _, _ => false
end
def RoH (H : Heap) : Prop := ∀ b, b < H.next → RO H b

section
variable {L : Lk} {P : Program} {W : World} {T : Type} {enc : TypeId × Value → T}
/-- What is found of a datum that was read. -/
def Op1 (L : Lk) (W : World) (ι : Im) (H : Heap) (D : TD) (cs : List Value) : Prop :=
  ∃ ι' H' vs, ∃ x : D.Ty, Sim L ι' H' W ∧ ILe ι ι' ∧ Same (fun _ => False) H H' ∧ RoH H' ∧ RelL L ι' vs cs ∧ Is H' D vs x

/-- A block that is only read is laid. -/
theorem Sim.ro {ι : Im} {H : Heap} {l : List V} {arr : Array Value} {ty : TypeId} {fz : Nat × Nat} {c p : Nat} (s : Sim L ι H W) (hro : RoH H) (hb : W.heap[c]? = some (.cells arr ty fz)) (hp : p + l.length ≤ arr.size)
    (hr : ∀ (i : Nat) (v : V), l[i]? = some v → ∃ v', arr[p + i]? = some v' ∧ Rel L ι v v') :
    Sim L (upd ι H.next c p arr.size) (H.new (.cells l false)) W ∧ ILe ι (upd ι H.next c p arr.size) ∧ RoH (H.new (.cells l false)) := by
  have hle : ILe ι (upd ι H.next c p arr.size) := fun b x e => by
    have : b ≠ H.next := fun hb => by rw [hb, s.nx _ (Nat.le_refl _)] at e; cases e
    unfold Ab.upd; rw [if_neg this]; exact e
  have hget : ∀ x, (H.new (.cells l false)).get x = if x = H.next then .cells l false else H.get x := fun _ => rfl
  have hnew : upd ι H.next c p arr.size H.next = some (c, p, arr.size) := by unfold Ab.upd; rw [if_pos rfl]
  have hold : ∀ x y, x ≠ H.next → upd ι H.next c p arr.size x = some y → ι x = some y := fun x y hx e => by
    unfold Ab.upd at e; rw [if_neg hx] at e; exact e
  have hro' : RoH (H.new (.cells l false)) := fun b hb => by
    have hn : (H.new (.cells l false)).next = H.next + 1 := rfl
    by_cases h : b = H.next
    · exact ⟨l, by rw [hget, if_pos h]⟩
    · obtain ⟨l', e⟩ := hro b (by omega); exact ⟨l', by rw [hget, if_neg h]; exact e⟩
  have low : ∀ b x, upd ι H.next c p arr.size b = some x → b < H.next + 1 := fun b x e => by
    rcases Nat.lt_or_ge b (H.next + 1) with h | h
    · exact h
    · have := hold b x (by omega) e; rw [s.nx b (by omega)] at this; cases this
  refine ⟨⟨fun b hb => ?_, fun b hb => ?_, fun b c' p' z' e => ?_, fun b c' p' z' e => ?_, fun b b' c' p' z' p2 z2 e _ _ _ hn => absurd (hro' b (low b _ e)) hn⟩, hle, hro'⟩
  · have hn : (H.new (.cells l false)).next = H.next + 1 := rfl
    rw [hget, if_neg (by omega)]; exact s.dn b (by omega)
  · have hn : (H.new (.cells l false)).next = H.next + 1 := rfl
    unfold Ab.upd; rw [if_neg (by omega)]; exact s.nx b (by omega)
  · by_cases h : b = H.next
    · subst h; rw [hnew] at e; cases e
      exact (Array.getElem?_eq_some_iff.1 hb).1
    · exact s.lt b _ _ _ (hold b _ h e)
  · by_cases h : b = H.next
    · subst h; rw [hnew] at e; cases e
      rw [hget, if_pos rfl]
      exact ⟨arr, ty, fz, hb, rfl, hp, (fun h => by cases h), fun i v hv => let ⟨v', h1, h2⟩ := hr i v hv; ⟨v', h1, Rel.mono hle _ _ h2⟩⟩
    · rw [hget, if_neg h]
      exact (s.ok b _ _ _ (hold b _ h e)).mono hle

theorem addr_add_add (a : Addr) (i j : Nat) : (a.add i).add j = a.add (i + j) := by
  unfold Addr.add
  by_cases hi : i = 0
  · subst hi; simp
  · by_cases hj : j = 0
    · subst hj; simp [hi]
    · simp [hi, hj, Nat.add_assoc]

theorem cells_get {a : Addr} {n : Nat} {cs : List Value} (h : W.cells? 0 a n = some cs) : cs.length = n ∧ ∀ i, i < n → W.cell? (a.add i) = cs[i]? := by
  unfold World.cells? at h
  rw [if_pos (Nat.zero_le _)] at h
  have hl := mapM_some_length h
  refine ⟨by simpa using hl, fun i hi => ?_⟩
  exact mapM_some_get h i i (by simp [hi])

theorem openElems {e : TD} {n len : Nat} {a : Addr} {rd : List Value → Option (DataW T × List MemPlace)} {elems : List (DataW T × List MemPlace)}
    (ih : ∀ (cs : List Value) (d : DataW T) (ps : List MemPlace), rd cs = some (d, ps) → d ∈ elems.map (·.1) → ∀ ι H, Sim L ι H W → RoH H → Op1 L W ι H e cs)
    (hel : ∀ i, i < len → (W.cells? 0 (a.add (i * n)) n).bind rd = elems[i]?) (hlen : elems.length = len) {ι : Im} {H : Heap} (s : Sim L ι H W) (hro : RoH H) :
    ∀ k, k ≤ len → ∃ ι' H' vs ws, ∃ xs : List e.Ty, Sim L ι' H' W ∧ ILe ι ι' ∧ Same (fun _ => False) H H' ∧ RoH H' ∧ RelL L ι' vs ws ∧ ws.length = k * n ∧ (∀ i, i < k * n → W.cell? (a.add i) = ws[i]?) ∧ xs.length = k ∧ Split (Is H' e) vs xs
  | 0, _ => ⟨ι, H, [], [], [], s, ILe.refl _, Same.refl _ _, hro, rfl, by simp, fun i hi => by simp at hi, rfl, rfl⟩
  | k + 1, hk => by
    obtain ⟨ι1, H1, vs, ws, xs, s1, l1, m1, r1, q1, q2, q3, q4, q5⟩ := openElems ih hel hlen s hro k (by omega)
    have h := hel k (by omega)
    obtain ⟨y, hy⟩ : ∃ y, elems[k]? = some y := ⟨elems[k]'(by omega), by simp⟩
    rw [hy] at h
    simp only [Option.bind_eq_some_iff] at h
    obtain ⟨cs, hc, hr⟩ := h
    obtain ⟨c1, c2⟩ := cells_get hc
    obtain ⟨ι2, H2, v2, x2, s2, l2, m2, r2, p1, p2⟩ := ih cs y.1 y.2 hr (List.mem_map.2 ⟨y, List.mem_of_getElem? hy, rfl⟩) ι1 H1 s1 r1
    refine ⟨ι2, H2, vs ++ v2, ws ++ cs, xs ++ [x2], s2, l1.trans l2, m1.trans m2 fun _ _ h => h, r2, (RelL.mono l2 _ _ q1).append p1, by rw [List.length_append, q2, c1, Nat.add_mul, Nat.one_mul], fun i hi => ?_, by simp [q4], ?_⟩
    · rw [Nat.add_mul, Nat.one_mul] at hi
      by_cases h : i < k * n
      · rw [List.getElem?_append_left (by omega)]; exact q3 i h
      · rw [List.getElem?_append_right (by omega), q2, ← c2 (i - k * n) (by omega), addr_add_add]; congr 2; omega
    · exact Split.snoc (Split.mono (fun a x h => Is.same m2 e a x h) _ _ q5) p2

theorem openParts {e : TD} {z n : Nat} {cs : List Value} {rd : List Value → Option (DataW T × List MemPlace)} {elems : List (DataW T × List MemPlace)}
    (ih : ∀ (cs : List Value) (d : DataW T) (ps : List MemPlace), rd cs = some (d, ps) → d ∈ elems.map (·.1) → ∀ ι H, Sim L ι H W → RoH H → Op1 L W ι H e cs)
    (hel : ∀ i, i < n → rd ((cs.drop (i * z)).take z) = elems[i]?) (hlen : elems.length = n) {ι : Im} {H : Heap} (s : Sim L ι H W) (hro : RoH H) :
    ∀ k, k ≤ n → ∃ ι' H' vs, ∃ xs : List e.Ty, Sim L ι' H' W ∧ ILe ι ι' ∧ Same (fun _ => False) H H' ∧ RoH H' ∧ RelL L ι' vs (cs.take (k * z)) ∧ xs.length = k ∧ Split (Is H' e) vs xs
  | 0, _ => ⟨ι, H, [], [], s, ILe.refl _, Same.refl _ _, hro, by rw [Nat.zero_mul, List.take_zero]; rfl, rfl, rfl⟩
  | k + 1, hk => by
    obtain ⟨ι1, H1, vs, xs, s1, l1, m1, r1, q1, q4, q5⟩ := openParts ih hel hlen s hro k (by omega)
    have h := hel k (by omega)
    obtain ⟨y, hy⟩ : ∃ y, elems[k]? = some y := ⟨elems[k]'(by omega), by simp⟩
    rw [hy] at h
    obtain ⟨ι2, H2, v2, x2, s2, l2, m2, r2, p1, p2⟩ := ih _ y.1 y.2 h (List.mem_map.2 ⟨y, List.mem_of_getElem? hy, rfl⟩) ι1 H1 s1 r1
    refine ⟨ι2, H2, vs ++ v2, xs ++ [x2], s2, l1.trans l2, m1.trans m2 fun _ _ h => h, r2, ?_, by simp [q4], Split.snoc (Split.mono (fun a x h => Is.same m2 e a x h) _ _ q5) p2⟩
    rw [Nat.add_mul, Nat.one_mul, List.take_add]
    exact (RelL.mono l2 _ _ q1).append p1

theorem all_append {α : Type} {p : α → Bool} {l m : List α} (h : (l ++ m).all p = true) : l.all p = true ∧ m.all p = true := by
  simpa [List.all_append] using h

theorem weightsAll_mem {e : TypeId} {d : DataW T} : ∀ {l : List (DataW T)}, (DataW.weightsAll P e l).all (· ≤ reachBytes) = true → d ∈ l → (d.weights P e).all (· ≤ reachBytes) = true
  | [], _, h => by cases h
  | x :: r, h, hm => by
    rw [DataW.weightsAll] at h
    obtain ⟨h1, h2⟩ := all_append h
    rcases List.mem_cons.1 hm with rfl | hm
    · exact h1
    · exact weightsAll_mem h2 hm

mutual
theorem openTD : ∀ (D : TD) (t : TypeId) (fuel : Nat) (cs : List Value) (d : DataW T) (ps : List MemPlace), ckTD P D t = true → DataW.trod enc P W 0 (fun _ => true) true fuel t cs = some (d, ps) →
    (d.weights P t).all (· ≤ reachBytes) = true → ∀ ι H, Sim L ι H W → RoH H → Op1 L W ι H D cs
  | .bool, t, fuel, cs, d, ps, hc, h, hw, ι, H, s, hro => by
    unfold ckTD at hc; split at hc
    · rename_i hu
      obtain ⟨b, rfl, _⟩ := DataW.trod_bool hu h
      exact ⟨ι, H, [.bool b], b, s, ILe.refl _, Same.refl _ _, hro, ⟨_, _, rfl, rfl, rfl⟩, rfl⟩
    · cases hc
  | .int k, t, fuel, cs, d, ps, hc, h, hw, ι, H, s, hro => by
    unfold ckTD at hc; split at hc
    · rename_i k' hu
      obtain rfl := of_decide_eq_true hc
      obtain ⟨n, rfl, _, hwf⟩ := DataW.trod_int hu h
      refine ⟨ι, H, [.int k n], n, s, ILe.refl _, Same.refl _ _, hro, ⟨_, _, rfl, rfl, rfl⟩, rfl, ?_⟩
      simpa [Lit.wf, inK] using hwf
    · cases hc
  | .flt k, t, fuel, cs, d, ps, hc, h, hw, ι, H, s, hro => by
    unfold ckTD at hc; split at hc
    · rename_i k' hu
      obtain rfl := of_decide_eq_true hc
      cases fuel with
      | zero => simp [DataW.trod] at h
      | succ n =>
        unfold DataW.trod at h
        rw [hu] at h
        split at h <;> simp_all
        obtain ⟨⟨rfl, hwf⟩, _⟩ := h
        exact ⟨ι, H, [.flt _ _], _, s, ILe.refl _, Same.refl _ _, hro, ⟨_, _, rfl, rfl, rfl⟩, rfl, hwf⟩
    · cases hc
  | .str, t, fuel, cs, d, ps, hc, h, hw, ι, H, s, hro => by
    unfold ckTD at hc; split at hc
    · rename_i hu
      obtain ⟨b, rfl, e, _⟩ := DataW.trod_string hu h
      cases e
      refine ⟨ι, H, [.str b], b, s, ILe.refl _, Same.refl _ _, hro, ⟨_, _, rfl, rfl, rfl⟩, rfl, ?_⟩
      simp [DataW.weights, reachBytes] at hw
      exact of_decide_eq_true hw
    · cases hc
  | .agg fs, t, fuel, cs, d, ps, hc, h, hw, ι, H, s, hro => by
    unfold ckTD at hc; split at hc
    · rename_i fields hu
      simp only [Bool.and_eq_true, beq_iff_eq] at hc
      obtain ⟨xs, n, rfl, e, hl, hxs, hf⟩ := DataW.trod_struct hu h
      cases e
      rw [DataW.weights, hu] at hw
      obtain ⟨ι', H', vs, x, h1, h2, h3, h4, h5, h6⟩ := openTDs fs fields.toList 0 n cs xs hc.1 (fun i f hi => hf i f (by simpa using hi)) (by simpa using hxs) (by rw [hl, hc.2]; omega) hw ι H s hro
      exact ⟨ι', H', vs, x, h1, h2, h3, h4, h5, h6⟩
    · cases hc
  | .arr n e, t, fuel, cs, d, ps, hc, h, hw, ι, H, s, hro => by
    unfold ckTD at hc; split at hc
    · rename_i n' u hu
      simp only [Bool.and_eq_true, beq_iff_eq, decide_eq_true_eq] at hc
      obtain ⟨⟨⟨rfl, hce⟩, hsz⟩, hct⟩ := hc
      obtain ⟨xs, m, rfl, e0, hl, hxs, hf⟩ := DataW.trod_array hu h
      cases e0
      rw [DataW.weights, hu] at hw
      obtain ⟨ι1, H1, vs, ys, s1, l1, m1, r1, q1, q2, q3⟩ := openParts (L := L) (e := e) (cs := cs) (fun cs d ps hr hm ι H s hro => openTD e u m cs d ps hce hr (weightsAll_mem hw hm) ι H s hro) hf hxs s hro n' (Nat.le_refl _)
      rw [List.take_of_length_le (by rw [hl, hct, hsz]; exact Nat.le_refl _)] at q1
      exact ⟨ι1, H1, vs, ys, s1, l1, m1, r1, q1, q3, q2⟩
    · cases hc
  | .sl bytes e, t, fuel, cs, d, ps, hc, h, hw, ι, H, s, hro => by
    unfold ckTD at hc; split at hc
    · rename_i u hu
      simp only [Bool.and_eq_true, beq_iff_eq, decide_eq_true_eq] at hc
      obtain ⟨⟨⟨hce, hsz⟩, hby⟩, hpos⟩ := hc
      rcases DataW.trod_slice hu h with ⟨rfl, e0⟩ | ⟨a, len, cap, elems, rest, n, rfl, rfl, e0, _, hlc, _, hlen, hel, hsp, _⟩
      · exact ⟨ι, H, [.sl none 0 0 0], [], s, ILe.refl _, Same.refl _ _, hro, ⟨_, _, rfl, ⟨rfl, rfl, rfl⟩, rfl⟩, _, [], rfl, Or.inl ⟨rfl, rfl, rfl⟩, rfl, by simp⟩
      · cases e0
        rw [DataW.weights, hu] at hw
        simp only [List.all_cons, Bool.and_eq_true, decide_eq_true_eq] at hw
        obtain ⟨hw1, hw2⟩ := hw
        obtain ⟨hw3, _⟩ := all_append hw2
        rw [hsz] at hel hsp
        obtain ⟨ι1, H1, vs, ws, xs, s1, l1, m1, r1, q1, q2, q3, q4, q5⟩ := openElems (L := L) (e := e) (fun cs d ps hr hm ι H s hro => openTD e u n cs d ps hce hr (weightsAll_mem hw3 hm) ι H s hro) hel hlen s hro len (Nat.le_refl _)
        have hbytes : xs.length * bytes ≤ 140737488351232 := by
          simp only [List.length_map] at hw1
          rw [hby, hlen] at hw1
          have : len * bytes ≤ (len + rest.length) * bytes := Nat.mul_le_mul_right _ (by omega)
          rw [q4]; unfold reachBytes at hw1; omega
        rcases Nat.eq_zero_or_pos cap with h0 | h0
        · have hl0 : len = 0 := by omega
          subst hl0
          obtain rfl : ws = [] := List.eq_nil_of_length_eq_zero (by simpa using q2)
          obtain rfl : vs = [] := List.eq_nil_of_length_eq_zero (by have := q1.length; simpa using this)
          obtain rfl : xs = [] := List.eq_nil_of_length_eq_zero q4
          subst h0
          obtain ⟨g1, g2⟩ := s1.ghost (.cells [] false)
          refine ⟨ι1, H1.new (.cells [] false), [.sl (some (H1.next, 0)) 0 0 e.size], [], g1, l1, m1.trans (Same.new _ _ _) fun _ _ h => h, fun b hb => ?_, ⟨_, _, rfl, ⟨Nat.le_refl _, a, 0, rfl, Nat.le_refl _, fun h => by omega⟩, rfl⟩, _, [], rfl, Or.inr ⟨H1.next, 0, 0, [], false, rfl, ?_, by simp, by simp, Nat.le_refl _, by simp [next_new]⟩, rfl, by simp⟩
          · have hn : (H1.new (.cells [] false)).next = H1.next + 1 := rfl
            by_cases h : b = H1.next
            · exact ⟨[], by rw [get_new, if_pos h]⟩
            · obtain ⟨l', e⟩ := r1 b (by omega); exact ⟨l', by rw [get_new, if_neg h]; exact e⟩
          · rw [get_new, if_pos rfl]
        · -- a cell at its last element
          have hlast : ∃ v, W.cell? (a.add (cap * e.size - 1)) = some v := by
            have hce1 : cap * e.size = (cap - 1) * e.size + e.size := by
              conv => lhs; rw [show cap = (cap - 1) + 1 by omega]
              rw [Nat.add_mul, Nat.one_mul]
            have key : ∀ i y, (W.cells? 0 (a.add (i * e.size)) e.size).bind (DataW.trod enc P W 0 (fun _ => true) true n u) = some y → ∃ v, W.cell? (a.add (i * e.size + (e.size - 1))) = some v := by
              intro i y hy
              simp only [Option.bind_eq_some_iff] at hy
              obtain ⟨cs, hc, _⟩ := hy
              obtain ⟨c1, c2⟩ := cells_get hc
              rw [← addr_add_add, c2 (e.size - 1) (by omega)]
              exact ⟨cs[e.size - 1]'(by omega), by simp⟩
            rw [show cap * e.size - 1 = (cap - 1) * e.size + (e.size - 1) by omega]
            by_cases hx : cap - 1 < len
            · exact key (cap - 1) (elems[cap - 1]'(by omega)) (by rw [hel _ hx]; simp)
            · obtain ⟨t1, t2⟩ := hsp rfl
              have := t2 (cap - 1 - len) (by omega)
              rw [show len + (cap - 1 - len) = cap - 1 by omega] at this
              exact key (cap - 1) (rest[cap - 1 - len]'(by omega)) (by rw [this]; simp)
          obtain ⟨vl, hvl⟩ := hlast
          have hblk : ∃ arr ty fz, W.heap[a.block]? = some (.cells arr ty fz) ∧ a.spot = none ∧ a.off + cap * e.size ≤ arr.size := by
            have hb : (a.add (cap * e.size - 1)).block = a.block := by unfold Addr.add; split <;> rfl
            have ho : (a.add (cap * e.size - 1)).off = a.off + (cap * e.size - 1) := by unfold Addr.add; split <;> simp_all
            have hcpos : 0 < cap * e.size := Nat.mul_pos h0 hpos
            have h00 : ∃ v0, W.cell? a = some v0 := by
              have key : ∀ i y, (W.cells? 0 (a.add (i * e.size)) e.size).bind (DataW.trod enc P W 0 (fun _ => true) true n u) = some y → i = 0 → ∃ v, W.cell? a = some v := by
                intro i y hy hi
                subst hi
                simp only [Option.bind_eq_some_iff] at hy
                obtain ⟨cs, hc, _⟩ := hy
                obtain ⟨c1, c2⟩ := cells_get hc
                have := c2 0 hpos
                rw [addr_add_add] at this
                simp only [Nat.zero_mul, Nat.add_zero, Addr.add, if_true] at this
                exact ⟨cs[0]'(by omega), by rw [this]; simp⟩
              by_cases hx : 0 < len
              · exact key 0 (elems[0]'(by omega)) (by rw [hel _ hx]; simp) rfl
              · obtain ⟨t1, t2⟩ := hsp rfl
                have := t2 0 (by omega)
                exact key (len + 0) (rest[0]'(by omega)) (by rw [this]; simp) (by omega)
            obtain ⟨v0, h00⟩ := h00
            unfold World.cell? at hvl h00
            rw [hb] at hvl
            cases hg : W.heap[a.block]? with
            | none => rw [hg] at h00; cases h00
            | some o =>
              rw [hg] at h00 hvl
              cases o with
              | cells arr ty fz =>
                dsimp only at h00 hvl
                split at h00
                · cases h00
                · rename_i hs
                  split at hvl
                  · cases hvl
                  · rw [ho] at hvl
                    have hlt := (Array.getElem?_eq_some_iff.1 hvl).1
                    refine ⟨arr, ty, fz, rfl, ?_, by omega⟩
                    cases hsp : a.spot with
                    | none => rfl
                    | some x => rw [hsp] at hs; simp at hs
              | _ => cases h00
          obtain ⟨arr, ty, fz, hg, hspot, hsize⟩ := hblk
          obtain ⟨ab, ao, asp⟩ := a
          dsimp only at hspot hg hsize
          subst hspot
          have hcell : ∀ i, W.cell? (Addr.add ⟨ab, ao, none⟩ i) = arr[ao + i]? := by
            intro i
            have : (Addr.add ⟨ab, ao, none⟩ i) = ⟨ab, ao + i, none⟩ := by unfold Addr.add; split <;> simp_all
            rw [this]; unfold World.cell?; rw [hg]; rfl
          have hvl : vs.length = len * e.size := by rw [q1.length, q2]
          have hmul : len * e.size ≤ cap * e.size := Nat.mul_le_mul_right _ hlc
          obtain ⟨g1, g2, g3⟩ := s1.ro (l := vs) (p := ao) r1 hg (by omega) (fun i v hv => by
            obtain ⟨y, hy, hry⟩ := q1.get hv
            have hi : i < len * e.size := by rw [← hvl]; exact (List.getElem?_eq_some_iff.1 hv).1
            exact ⟨y, by rw [← hcell, q3 i hi]; exact hy, hry⟩)
          refine ⟨_, _, [.sl (some (H1.next, 0)) len len e.size], xs, g1, l1.trans g2, m1.trans (Same.new _ _ _) fun _ _ h => h, g3, ⟨_, _, rfl, ⟨Nat.le_refl _, ⟨ab, ao, none⟩, cap, rfl, hlc, fun _ => ⟨ab, ao, arr.size, ao, by unfold Ab.upd; rw [if_pos rfl], rfl, by omega, fun _ => by omega⟩⟩, rfl⟩, _, vs, rfl, Or.inr ⟨H1.next, 0, len, vs, false, by rw [q4], by rw [get_new, if_pos rfl], by rw [hvl, q4]; omega, by rw [q4, ← hvl]; simp, by omega, by simp [next_new]⟩, Split.mono (fun a x h => Is.same (Same.new _ _ _) e a x h) _ _ q5, hbytes⟩
    · cases hc
theorem openTDs : ∀ (fs : List TD) (fields : List Field) (o n : Nat) (cs : List Value) (xs : List (DataW T × List MemPlace)), ckTDs P fs fields o = true →
    (∀ (i : Nat) (f : Field), fields[i]? = some f → DataW.trod enc P W 0 (fun _ => true) true n f.type ((cs.drop f.offset).take (P.cellsOf f.type)) = xs[i]?) → xs.length = fields.length → cs.length = o + TD.sizes fs →
    (DataW.weightsEach P (fields.map (·.type)) (xs.map (·.1))).all (· ≤ reachBytes) = true → ∀ ι H, Sim L ι H W → RoH H →
    ∃ ι' H' vs, ∃ x : TD.Tys fs, Sim L ι' H' W ∧ ILe ι ι' ∧ Same (fun _ => False) H H' ∧ RoH H' ∧ RelL L ι' vs (cs.drop o) ∧ IsS H' fs vs x
  | [], fields, o, n, cs, xs, hc, hf, hx, hl, hw, ι, H, s, hro => by
    refine ⟨ι, H, [], (), s, ILe.refl _, Same.refl _ _, hro, ?_, rfl⟩
    rw [List.drop_eq_nil_of_le (by simp only [TD.sizes] at hl; omega)]; rfl
  | D :: r, [], o, n, cs, xs, hc, hf, hx, hl, hw, ι, H, s, hro => by cases hc
  | D :: r, f :: fields, o, n, cs, xs, hc, hf, hx, hl, hw, ι, H, s, hro => by
    simp only [ckTDs, Bool.and_eq_true, beq_iff_eq] at hc
    obtain ⟨⟨⟨ho, hck⟩, hsz⟩, hrest⟩ := hc
    cases xs with
    | nil => simp at hx
    | cons x xs =>
      simp only [TD.sizes] at hl
      simp only [List.map_cons, DataW.weightsEach] at hw
      obtain ⟨hw1, hw2⟩ := all_append hw
      have h0 := hf 0 f rfl
      rw [ho, hsz] at h0
      obtain ⟨ι1, H1, v1, x1, s1, l1, m1, r1, p1, p2⟩ := openTD D f.type n ((cs.drop o).take D.size) x.1 x.2 hck h0 hw1 ι H s hro
      obtain ⟨ι2, H2, v2, x2, s2, l2, m2, r2, p3, p4⟩ := openTDs r fields (o + D.size) n cs xs hrest (fun i f hi => hf (i + 1) f hi) (by simpa using hx) (by omega) hw2 ι1 H1 s1 r1
      refine ⟨ι2, H2, v1 ++ v2, (x1, x2), s2, l1.trans l2, m1.trans m2 fun _ _ h => h, r2, ?_, v1, v2, rfl, Is.same m2 D _ _ p2, p4⟩
      have := (RelL.mono l2 _ _ p1).append p3
      rwa [← List.drop_drop, List.take_append_drop] at this
end
/-- The empty heap. -/
def H0 : Heap := ⟨0, fun _ => .dead⟩
theorem sim0 : Sim L (fun _ => none) H0 W := ⟨fun _ _ => rfl, fun _ _ => rfl, (fun _ _ _ _ h => by cases h), (fun _ _ _ _ h => by cases h), (fun _ _ _ _ _ _ _ _ h => by cases h)⟩
theorem ro0 : RoH H0 := fun _ h => by cases h

/-- The value of an argument. -/
def argV : TD → List V → V
  | .agg _, cs => .agg cs
  | .arr _ _, cs => .agg cs
  | _, [v] => v
  | _, _ => .un

/-- How an argument lies before it is read. -/
def okArg : TD → Value → Prop
  | .agg _, v => ∃ cs, v = .agg cs
  | .arr _ _, v => ∃ cs, v = .agg cs
  | _, v => v.cells = #[v]

/-- A law's call: it answers true and leaves all that was. -/
theorem law_calls {pr : Prog} (k : Linked L P pr) {g : Nat} (hd : L.dom g = true) (D : TD) {t : TypeId} {v : Value} {d : DataW T} {ps : List MemPlace} (hck : ckTD P D t = true)
    (h : DataW.Trod enc P W 0 (fun _ => true) true t v d ps) (hok : okArg D v) (hw : (d.weights P t).all (· ≤ reachBytes) = true)
    (hcall : ∀ H cs, ∀ x : D.Ty, Is H D cs x → Call pr g [argV D cs] H fun o _ => o = .ret (.bool true)) :
    Calls P (L.φ g) #[v] W fun e W' => e = .returned (.bool true) ∧ Below W.heap.size W W' := by
  obtain ⟨fuel, hf⟩ := h
  obtain ⟨ι, H, vs, x, s, _, _, hro, hr, hi⟩ := openTD (L := L) D t fuel v.cells.toList d ps hck hf hw _ _ sim0 ro0
  have hrel : RelL L ι [argV D vs] (#[v] : Array Value).toList := by
    refine ⟨v, [], rfl, ?_, rfl⟩
    have single : v.cells = #[v] → argV D vs = argV .bool vs → Rel L ι (argV D vs) v := fun e e2 => by
      rw [e] at hr
      cases vs with
      | nil => have := hr.length; simp at this
      | cons a b =>
        obtain ⟨y, q, e1, h1, h2⟩ := hr
        cases e1
        obtain rfl : b = [] := by cases b with
          | nil => rfl
          | cons _ _ => have := h2.length; simp at this
        rw [e2]; exact h1
    cases D with
    | agg fs => obtain ⟨cs, rfl⟩ := hok; exact ⟨cs, rfl, hr⟩
    | arr n e => obtain ⟨cs, rfl⟩ := hok; exact ⟨cs, rfl, hr⟩
    | bool => exact single hok rfl
    | int k => exact single hok (by cases vs with | nil => rfl | cons a b => cases b <;> rfl)
    | flt k => exact single hok (by cases vs with | nil => rfl | cons a b => cases b <;> rfl)
    | str => exact single hok (by cases vs with | nil => rfl | cons a b => cases b <;> rfl)
    | sl _ e => exact single hok (by cases vs with | nil => rfl | cons a b => cases b <;> rfl)
  refine (((call_sound k (hcall H vs x hi)).1 hd ι W #[v] s hrel).1).mono fun e W' he => ?_
  obtain ⟨ι', H', s', x', he⟩ := he
  have hb : Below W.heap.size W W' := by
    refine ⟨x'.os, x'.tape, x'.output, x'.hs, fun c hc => x'.kept c hc fun b p z e => hro b ?_⟩
    rcases Nat.lt_or_ge b H.next with h | h
    · exact h
    · rw [s.nx b h] at e; cases e
  cases e with
  | returned v' => obtain ⟨u, h1, h2⟩ := he; cases h2; exact ⟨by rw [show v' = .bool true from h1], hb⟩
  | panicked c => obtain ⟨u, u', _, _, h2⟩ := he; cases h2
  | outgrown => exact he.elim

end
end Go.Ab
namespace Go.Ab
theorem split_ints {k : IntKind} {H : Heap} : ∀ {L : List V} {zs : List Int}, Split (Is H (.int k)) L zs → L = zs.map (V.int k) ∧ ∀ z ∈ zs, inK k z
  | _, [], h => ⟨h, fun _ h => by cases h⟩
  | _, z :: zs, ⟨a, b, e, ⟨h1, h2⟩, h3⟩ => by
    obtain ⟨h4, h5⟩ := split_ints h3
    refine ⟨by rw [e, h1, h4]; rfl, fun y hy => ?_⟩
    rcases List.mem_cons.1 hy with rfl | hy
    · exact h2
    · exact h5 y hy
theorem Is.ints {k : IntKind} {b : Nat} {H : Heap} {cs : List V} {zs : List Int} (h : Is H (.sl b (.int k)) cs zs) : ∃ v, cs = [v] ∧ Arr H v 1 zs.length (zs.map (V.int k)) ∧ (∀ z ∈ zs, inK k z) ∧ zs.length * b ≤ 140737488351232 := by
  obtain ⟨v, L, h1, h2, h3, h4⟩ := h
  obtain ⟨h5, h6⟩ := split_ints h3
  exact ⟨v, h1, by rw [← h5]; exact h2, h6, h4⟩
theorem nats_of {k : IntKind} (hk : k.min = 0) : ∀ {zs : List Int}, (∀ z ∈ zs, inK k z) → ∃ ns : List Nat, zs = ns.map (fun (n : Nat) => (n : Int)) ∧ ∀ n ∈ ns, ((n : Nat) : Int) ≤ k.max
  | [], _ => ⟨[], rfl, fun _ h => by cases h⟩
  | z :: zs, h => by
    obtain ⟨ns, h1, h2⟩ := nats_of hk fun y hy => h y (List.mem_cons_of_mem _ hy)
    have hz := h z List.mem_cons_self
    unfold inK at hz
    rw [hk] at hz
    refine ⟨z.toNat :: ns, ?_, fun n hn => ?_⟩
    · rw [List.map_cons, ← h1, Int.toNat_of_nonneg hz.1]
    · rcases List.mem_cons.1 hn with rfl | hn
      · rw [Int.toNat_of_nonneg hz.1]; exact hz.2
      · exact h2 n hn
theorem Is.nats {k : IntKind} {b : Nat} {H : Heap} {cs : List V} {zs : List Int} (hk : k.min = 0) (h : Is H (.sl b (.int k)) cs zs) :
    ∃ (v : V) (ns : List Nat), cs = [v] ∧ Arr H v 1 ns.length (ns.map fun (n : Nat) => .int k n) ∧ (∀ n ∈ ns, ((n : Nat) : Int) ≤ k.max) ∧ ns.length * b ≤ 140737488351232 := by
  obtain ⟨v, h1, h2, h3, h4⟩ := Is.ints h
  obtain ⟨ns, rfl, h5⟩ := nats_of hk h3
  rw [List.length_map] at h2 h4
  rw [List.map_map] at h2
  exact ⟨v, ns, h1, h2, h5, h4⟩
end Go.Ab
namespace Go.Ab
abbrev segTD : TD := .agg [.int .i64, .int .i64, .int .i64, .sl 8 (.int .i64), .sl 1 .bool, .bool, .sl 1 (.int .u8)]
theorem k64 {n : Int} (h : inK .i64 n) : r64 n := by
  unfold inK at h
  rw [show IntKind.i64.min = -9223372036854775808 by decide, show IntKind.i64.max = 9223372036854775807 by decide] at h
  exact h
theorem is_bytes {b : Nat} {H : Heap} {cs : List V} {zs : List Int} (h : Is H (.sl b (.int .u8)) cs zs) : ∃ (v : V) (f : List Nat), cs = [v] ∧ Arr H v 1 f.length (u8s f) ∧ (∀ x ∈ f, x < 256) ∧ f.length * b ≤ 140737488351232 := by
  obtain ⟨v, ns, h1, h2, h3, h4⟩ := Is.nats (k := .u8) rfl h
  refine ⟨v, ns, h1, h2, fun x hx => ?_, h4⟩
  have := h3 x hx
  rw [show IntKind.u8.max = 255 by decide] at this
  omega
theorem split_bools {H : Heap} : ∀ {L : List V} {bs : List Bool}, Split (Is H .bool) L bs → L = bools bs
  | _, [], h => h
  | _, b :: bs, ⟨a, r, e, h1, h2⟩ => by rw [e, show a = [.bool b] from h1, split_bools h2]; rfl
theorem is_bools {b : Nat} {H : Heap} {cs : List V} {bs : List Bool} (h : Is H (.sl b .bool) cs bs) : ∃ v, cs = [v] ∧ Arr H v 1 bs.length (bools bs) ∧ bs.length * b ≤ 140737488351232 := by
  obtain ⟨v, L, h1, h2, h3, h4⟩ := h
  exact ⟨v, h1, by rw [← split_bools h3]; exact h2, h4⟩
structure PlO where
  v : V
  f : List Nat
  p : Int
def PlO.cs (o : PlO) : List V := [o.v, .int .i64 o.p]
structure SgO where
  s : Sg
  v1 : V
  v2 : V
  v3 : V
def SgO.cs (o : SgO) : List V := o.s.cells o.v1 o.v2 o.v3
def SgOk (H : Heap) (o : SgO) : Prop := SgR H o.v1 o.v2 o.v3 o.s
theorem is_seg {H : Heap} {cs : List V} {x : TD.Ty segTD} (h : Is H segTD cs x) : ∃ o : SgO, cs = o.cs ∧ SgOk H o := by
  obtain ⟨a, r, e, ⟨h1, g1⟩, a2, r2, e2, ⟨h2, g2⟩, a3, r3, e3, ⟨h3, g3⟩, a4, r4, e4, h4, a5, r5, e5, h5, a6, r6, e6, h6, a7, r7, e7, h7, h8⟩ := h
  obtain ⟨v1, k1, k2, k3, k4⟩ := Is.ints h4
  obtain ⟨v2, l1, l2, l3⟩ := is_bools h5
  obtain ⟨v3, f, m1, m2, m3, m4⟩ := is_bytes h7
  refine ⟨⟨⟨x.1, x.2.1, x.2.2.1, x.2.2.2.1, x.2.2.2.2.1, x.2.2.2.2.2.1, f⟩, v1, v2, v3⟩, ?_, ⟨k2, l2, m2, ⟨k64 g1, k64 g2, k64 g3, fun n hn => k64 (k3 n hn), m3, ?_, ?_, ?_⟩⟩⟩
  · rw [e, e2, e3, e4, e5, e6, e7, h1, h2, h3, k1, l1, m1, show a6 = [.bool x.2.2.2.2.2.1] from h6, show r7 = [] from h8]; rfl
  · dsimp only; omega
  · dsimp only; omega
  · dsimp only; omega
def sgCells (l : List SgO) : List V := l.flatMap SgO.cs
theorem sgCells_at : ∀ {l : List SgO} {i : Nat} (hi : i < l.length), ((sgCells l).drop (i * 7)).take 7 = l[i].cs
  | o :: l, 0, _ => by simp [sgCells, SgO.cs, Sg.cells]
  | o :: l, i + 1, hi => by
    have := sgCells_at (l := l) (i := i) (by simpa using hi)
    rw [show (i + 1) * 7 = 7 + i * 7 by omega, ← List.drop_drop]
    simpa [sgCells, SgO.cs, Sg.cells] using this
theorem is_segs {b : Nat} {H : Heap} {cs : List V} {xs : TD.Ty (.sl b segTD)} (h : Is H (.sl b segTD) cs xs) : ∃ (v : V) (l : List SgO), cs = [v] ∧ Arr H v 7 l.length (sgCells l) ∧ (∀ o ∈ l, SgOk H o) ∧ l.length * b ≤ 140737488351232 := by
  obtain ⟨v, L, h1, h2, h3, h4⟩ := h
  have key : ∀ (xs : List (TD.Ty segTD)) (L : List V), Split (Is H segTD) L xs → ∃ l : List SgO, L = sgCells l ∧ l.length = List.length xs ∧ ∀ o ∈ l, SgOk H o := by
    intro xs
    induction xs with
    | nil => exact fun L h => ⟨[], h, rfl, fun _ h => nomatch h⟩
    | cons x xs ih =>
      rintro L ⟨a, r, e, k1, k2⟩
      obtain ⟨o, k3, k4⟩ := is_seg k1
      obtain ⟨l, k5, k6, k7⟩ := ih r k2
      refine ⟨o :: l, by rw [e, k3, k5]; rfl, by rw [List.length_cons, k6]; rfl, fun q hq => ?_⟩
      rcases List.mem_cons.1 hq with rfl | hq
      · exact k4
      · exact k7 q hq
  obtain ⟨l, k1, k2, k3⟩ := key xs L h3
  exact ⟨v, l, h1, by rw [k2, ← k1]; exact h2, k3, by rw [k2]; exact h4⟩
theorem SgOk.same {H H' : Heap} {o : SgO} (h : SgOk H o) (k : Same (fun _ => False) H H') : SgOk H' o := SgR.same h k
end Go.Ab
namespace Go.Ab
section
variable {P : Prog} {H : Heap} {R : List As} {Q : Out → Heap → Prop}
/-- Segments that can be read. -/
structure FlR (H : Heap) (v : V) (l : List SgO) : Prop where
  arr : Arr H v 7 l.length (sgCells l)
  ok : ∀ o ∈ l, SgOk H o
theorem FlR.same {H H' : Heap} {v : V} {l : List SgO} (h : FlR H v l) (k : Same (fun _ => False) H H') : FlR H' v l := ⟨h.arr.same k fun _ _ h => h, fun o ho => (h.ok o ho).same k⟩
abbrev ss (l : List SgO) : List Sg := l.map SgO.s
theorem FlR.at {H : Heap} {v : V} {l : List SgO} (h : FlR H v l) {i : Nat} (hi : i < l.length) :
    ∃ b o c, v = .sl (some (b, o)) l.length c 7 ∧ rd H (some 7) b (o + i * 7) = some (.agg l[i].cs) ∧ (∀ k, k < 7 → rd H none b (o + i * 7 + k) = l[i].cs[k]?) ∧ SgOk H l[i] := by
  obtain ⟨b, o, c, rfl⟩ := h.arr.at0 (by omega)
  refine ⟨b, o, c, rfl, by rw [h.arr.agg hi, sgCells_at hi], fun k hk => ?_, h.ok _ (List.getElem_mem hi)⟩
  rw [h.arr.rdm hi hk, ← sgCells_at hi, List.getElem?_take, if_pos hk, List.getElem?_drop]
end
end Go.Ab
namespace Go.Ab
section
variable {P : Prog} {H : Heap} {R : List As} {Q : Out → Heap → Prop}
theorem app_on {fv hv : V} {F D : List Nat} (h : Hs H (Lst fv 1 F.length (u8s F) :: R)) (ha : Arr H hv 1 D.length (u8s D)) (hl : F.length + D.length ≤ 100000000000000) :
    ∃ v' H', app H 1 1 fv hv = some (v', H') ∧ Hs H' (Lst v' 1 (F ++ D).length (u8s (F ++ D)) :: R) := by
  obtain ⟨v3, H3, k1, k2, k3, k4⟩ := app_own (eb := 1) h.own (firsts_arr ha) (by simp [u8s]) (u8s_one _) (by omega) (by omega)
  have h3 := h.lst' k3 k2 k4
  rw [show u8s F ++ u8s D = u8s (F ++ D) by simp [u8s], ← List.length_append] at h3
  exact ⟨v3, H3, k1, h3⟩
theorem part_len (rnd : Bool) : ∀ {l : List Sg}, (∀ s ∈ l, May s) → (l.flatMap (partB rnd)).length + (tailB rnd l).length ≤ l.length * 67240000
  | [], _ => by cases rnd <;> simp [tailB]
  | s :: l, h => by
    have ih := part_len rnd (l := l) fun t ht => h t (List.mem_cons_of_mem _ ht)
    have hm := h s List.mem_cons_self
    have h1 := hdr_len hm
    have h2 := hm.most
    cases rnd <;> simp only [tailB, partB, List.flatMap_cons, List.length_append, List.length_cons, if_true, Bool.false_eq_true, if_false, List.length_nil] at ih ⊢ <;> omega
structure WrX where
  i : Nat
  f : V
  d : V
def WrX.fr (rnd : Bool) (v : V) (n : Nat) (x : WrX) : Fr := ⟨[(1, .bool rnd), (11, x.f), (12, x.d), (87, v), (88, .int .i64 (n : Nat)), (89, .int .i64 (x.i : Nat))], []⟩
end
end Go.Ab
namespace Go.Ab
section
variable {P : Prog} {H : Heap} {R : List As} {Q : Out → Heap → Prop}
def IsSl (v : V) : Prop := ∃ a n c e, v = V.sl a n c e
theorem clone_ct (hp : HasFw P) {b o c : Nat} {bs : List Nat} (hx : Arr H (.sl (some (b, o)) bs.length c 1) 1 bs.length (u8s bs)) (hl : bs.length ≤ 100000000000000) (hs : Hs H R) (hQ : ∀ v H', IsSl v → Hs H' R → Q (.ret v) H') : Call P 225 [.sl (some (b, o)) bs.length c 1] H Q := by
  refine call_of hp.h_slices_Clone_byte_byte rfl ?_
  have g := (hs.alloc (l := [])).toLst (n := 0) (e := 1) rfl
  have hx' := hx.same ((Hs.start H).alloc (l := [])).tail.base fun _ _ h => h
  obtain ⟨v', H', k, g2⟩ := app_on (F := []) g hx' (by simp; omega)
  have ho : IsSl v' := by obtain ⟨a, z, e, hv⟩ := g2.own.arr.shape; exact ⟨_, _, _, _, hv⟩
  simp -implicitDefEqProofs -dsimp (disch := omega) only [go_sem, dec_t, dec_f, k]
  exact hQ v' H' ho g2.tail
theorem data_ct (hp : HasFw P) {rb r most at_ len : Nat} {o : OSt} {fb fo fc : Nat} {f : List Nat} {x2 : V} (hR : ∀ H', Hs H' R → Arr H' (.sl (some (fb, fo)) f.length fc 1) 1 f.length (u8s f)) (hl : f.length ≤ 100000000000000) (hat : at_ + len ≤ f.length)
    (hs : Hs H (MpA r o.held :: Cel rb (ord3 (.sl (some (fb, fo)) f.length fc 1) (.int .i64 (at_ : Nat)) x2 most o r) :: R))
    (hQ : ∀ v H', IsSl v → Hs H' (MpA r o.held :: Cel rb (ord3 (.sl (some (fb, fo)) f.length fc 1) (.int .i64 ((at_ + len : Nat) : Int)) x2 most o r) :: R) → Q (.ret v) H') : Call P 219 [.ptr (some (rb, 0)), .int .i64 (len : Nat)] H Q := by
  refine call_of hp.h_file_reader_data rfl ?_
  unfold ord3 at *
  have r1 := rd_s (Hs.p1 hs).cel
  have w1 := wr_s (Hs.p1 hs).cel 1
  simp -implicitDefEqProofs -dsimp (disch := omega) only [go_sem, dec_t, dec_f, r1, w64]
  refine wrong17_ct hp (fun _ => ?_) fun k => (by simp at k <;> omega)
  have g2 := (Hs.p1 hs).put (l' := [.sl (some (fb, fo)) f.length fc 1, .int .i64 ((at_ + len : Nat) : Int), x2, .int .i64 o.next, .int .i64 o.pages, .int .i64 most, .int .i64 (if o.op then (o.pages : Int) else 0), .map (some r)])
  have ek : (at_ : Int) + len = ((at_ + len : Nat) : Int) := by omega
  have ek2 : ((at_ + len : Nat) : Int) - len = (at_ : Nat) := by omega
  have r2 := rd_s g2.cel
  have hcap := (hR _ g2.tail.tail).cap.1
  obtain ⟨D, hD, az⟩ : ∃ D : List Nat, D.length = len ∧ Arr (H.put rb (.cells [.sl (some (fb, fo)) f.length fc 1, .int .i64 ((at_ + len : Nat) : Int), x2, .int .i64 o.next, .int .i64 o.pages, .int .i64 most, .int .i64 (if o.op then (o.pages : Int) else 0), .map (some r)] true)) (.sl (some (fb, fo + at_)) len (fc - at_) 1) 1 len (u8s D) := by
    have az := (hR _ g2.tail.tail).sub (k := at_) (m := len) (by omega)
    rw [Nat.mul_one, Nat.mul_one, u8s_sub] at az
    exact ⟨_, by rw [List.length_take, List.length_drop]; omega, az⟩
  subst hD
  have esl : at_ + D.length - at_ = D.length := by omega
  simp -implicitDefEqProofs -dsimp (disch := omega) only [go_sem, dec_t, dec_f, r1, w64, ek, w1, r2, ek2, Int.toNat_natCast, Nat.mul_one, esl]
  refine clone_ct hp az (by omega) g2 fun v H' hv h => ?_
  simp -implicitDefEqProofs -dsimp (disch := omega) only [go_sem, dec_t, dec_f, ]
  exact hQ v H' hv (Hs.p1 h)
end
end Go.Ab
namespace Go.Ab
section
variable {P : Prog} {H : Heap} {R : List As} {Q : Out → Heap → Prop}
set_option maxHeartbeats 2000000 in
theorem header_ct (hp : HasFw P) (hg : HasSeg P) (hb : HasBits P) {rb r most at_ len a : Nat} {o : OSt} {fb fo fc : Nat} {f : List Nat} {x2 : V} {s : Sg} (ok : o.Ok most) (hm : most ≤ 1000000) (hn : o.next ≤ 1000000000000) (hR : ∀ H', Hs H' R → Arr H' (.sl (some (fb, fo)) f.length fc 1) 1 f.length (u8s f)) (hl : f.length ≤ 100000000000000) (hat : at_ ≤ f.length)
    (hf : ∀ b ∈ f, b < 256) (hd : decR f (at_ : Nat) = .ok (s, len, a)) (hsd : s.data = []) (sok : s.Ok) (hk : s.keep.length = s.refs.length)
    (hs : Hs H (MpA r o.held :: Cel rb (ord3 (.sl (some (fb, fo)) f.length fc 1) (.int .i64 (at_ : Nat)) x2 most o r) :: R))
    (h0 : comeE most o s = 0 → ∀ v1 v2 H', IsSl v1 → IsSl v2 → Hs H' (MpA r (comeO o s).held :: Cel rb (ord3 (.sl (some (fb, fo)) f.length fc 1) (.int .i64 (a : Nat)) x2 most (comeO o s) r) :: R) → Q (.ret (.tup [.agg (s.cells v1 v2 (.sl none 0 0 0)), .int .i64 (len : Nat)])) H')
    (h1 : comeE most o s ≠ 0 → ∀ H', Hs H' R → Q (.pan (flt17 (comeE most o s))) H') : Call P 220 [.ptr (some (rb, 0))] H Q := by
  refine call_of hp.h_file_reader_header rfl ?_
  have g1 := hs.alloc (l := zeroC)
  have g2 := g1.alloc (l := zeroC)
  rw [next_new] at g2
  have r1 := rd_s (Hs.p2 g1).cel
  unfold ord3 at r1
  unfold zeroC at *
  simp -implicitDefEqProofs -dsimp (disch := omega) only [go_sem, dec_t, dec_f, r1]
  generalize (H.new _).new _ = H2 at *
  generalize H.next + 1 = b4 at *
  generalize H.next = b2 at *
  refine decode_ct (p := (at_ : Nat)) hg hb (by unfold r64; omega) (hR H2 g2.tail.tail.tail.tail) hf (by omega) g2 (fun s' len' a' v1 v2 H3 hd' hsd' g3 => ?_) (fun e H3 k => by rw [hd] at k; cases k)
  rw [hd] at hd'
  cases hd'
  obtain ⟨a1, z1, e1, hv1⟩ := g3.own.arr.shape
  obtain ⟨a2, z2, e2, hv2⟩ := (Hs.p1 g3).own.arr.shape
  subst hv1 hv2
  have c4 := (Hs.p2 g3).cel
  have w4 := wr_s c4 0
  have g4 := (Hs.p2 g3).put (l' := s.cells (.sl a1 s.refs.length z1 e1) (.sl a2 s.keep.length z2 e2) (.sl none 0 0 0))
  have c1 : s.cells (.sl a1 s.refs.length z1 e1) (.sl a2 s.keep.length z2 e2) (.sl none 0 0 0) = [.int .i64 s.num, .int .i64 s.kind, .int .i64 s.page, .sl a1 s.refs.length z1 e1, .sl a2 s.keep.length z2 e2, .bool s.stay, .sl none 0 0 0] := rfl
  rw [c1] at g4 ⊢
  have rm4 := rd_m g4.cel 7
  simp -implicitDefEqProofs -dsimp (disch := omega) only [go_sem, dec_t, dec_f, ]
  refine aft_intro (t := tag _) (by simp [rechecks, recheck, fresh, Fr.get, Fr.put, look, step, opd, c4]) ?_
  simp -implicitDefEqProofs -dsimp (disch := omega) only [go_sem, dec_t, dec_f, w4]
  refine need17_ct hp (fun _ => ?_) fun k => absurd rfl k
  have r4 := rd_s (Hs.p5 g4).cel
  simp -implicitDefEqProofs -dsimp (disch := omega) only [go_sem, dec_t, dec_f, rm4]
  rw [← c1]
  have g5 := Hs.p1 (Hs.p5 (Hs.p4 g4))
  refine step3_ct hp ok hm hn (fun H' h => ⟨(Hs.p1 h).own.arr, (Hs.p2 h).own.arr, by rw [hsd]; exact Or.inl ⟨rfl, rfl, rfl⟩, sok⟩) hk g5 (fun he H5 g6 => ?_) (fun he H5 g6 => ?_)
  rotate_left
  · have h1 := h1 he H5 g6.tail.tail.tail.tail
    simp -implicitDefEqProofs -dsimp (disch := omega) only [go_sem, dec_t, dec_f, ]
    refine need17_ct hp (fun k => absurd k he) fun _ => ?_
    simp -implicitDefEqProofs -dsimp (disch := omega) only [go_sem, dec_t, dec_f, ]
    exact h1
  have h0 := h0 he (.sl a1 s.refs.length z1 e1) (.sl a2 s.keep.length z2 e2)
  clear h1
  simp -implicitDefEqProofs -dsimp (disch := omega) only [go_sem, dec_t, dec_f, ]
  refine need17_ct hp (fun _ => ?_) fun k => absurd rfl k
  unfold ord3 at g6 h0
  have w6 := wr_s (Hs.p1 g6).cel 1
  have g7 := (Hs.p1 g6).put (l' := [.sl (some (fb, fo)) f.length fc 1, .int .i64 (a : Nat), x2, .int .i64 (comeO o s).next, .int .i64 (comeO o s).pages, .int .i64 most, .int .i64 (if (comeO o s).op then ((comeO o s).pages : Int) else 0), .map (some r)])
  have r7 := rd_m (Hs.p2 g7).cel 7
  have w7 := wr_s (Hs.p5 g7).cel 0
  have g8 := (Hs.p5 g7).put (l' := [.int .i64 s.num, .int .i64 s.kind, .int .i64 s.page, .sl a1 s.refs.length z1 e1, .sl a2 s.keep.length z2 e2, .bool s.stay, .sl none 0 0 0])
  have r8 := rd_m g8.cel 7
  simp -implicitDefEqProofs -dsimp (disch := omega) only [go_sem, dec_t, dec_f, w6, r7, w7, r8]
  have g9 := Hs.perm g8.tail (List.Perm.swap _ _ _)
  exact h0 _ ⟨_, _, _, _, rfl⟩ ⟨_, _, _, _, rfl⟩ (by
    have := (Hs.p2 (Hs.p2 (Hs.p2 g9).tail).tail).tail
    exact this)
end
end Go.Ab
namespace Go.Ab
-- file_Segments: 236, parameters f; loops 
-- file_Segments_1: 235, parameters   ; loops 
/-- burin/file.Segments -/
def file_Segments : AFun := ⟨1, 12, true, [.cell 2 none, .cell 3 none, .t 4],
  .seq (.reg false [1, 2, 3] [⟨some 1, .box 1 (.t 0), none, 0, []⟩,
    ⟨some 2, .alloc [.sl none 0 0 0], none, 0, []⟩,
    ⟨some 3, .alloc [.bool false], none, 0, []⟩,
    ⟨some 4, .mv (.c (.int .i64 0)), none, 0, []⟩])
  (.seq (.reg false [2, 3, 4] [⟨some 5, .mkfn 235 [] [(.t 1), (.t 2), (.t 3)], none, 0, []⟩,
    ⟨some 6, .call (.f 204) [(.t 5)], none, 0, []⟩,
    ⟨some 4, .mv (.t 6), none, 0, []⟩])
  (.seq (.seq (.reg false [2, 3, 4, 8] [⟨some 7, .mv (.t 4), none, 0, []⟩,
    ⟨some 8, .bin .neq .num (.t 7) (.c (.int .i64 0)), none, 0, []⟩])
  (.cond (.t 8) (.seq (.reg false [2, 3, 4] [⟨some 9, .mv (.t 4), none, 0, []⟩,
    ⟨none, .store 1 (.t 2) (.c (.sl none 0 0 0)), none, 0, []⟩,
    ⟨none, .store 1 (.t 3) (.c (.bool false)), none, 0, []⟩,
    ⟨some 4, .mv (.t 9), none, 0, []⟩])
  (.ret))
  (.skip)))
  (.seq (.reg true [2, 3, 4] [⟨some 10, .load none (.t 2), none, 0, []⟩,
    ⟨some 11, .load none (.t 3), none, 1, []⟩,
    ⟨none, .store 1 (.t 2) (.t 10), none, 2, [1]⟩,
    ⟨none, .store 1 (.t 3) (.t 11), none, 3, []⟩,
    ⟨some 4, .mv (.c (.int .i64 0)), none, 4, []⟩])
  (.ret))))⟩

/-- burin/file.Segments$1 -/
def file_Segments_1 : AFun := ⟨3, 20, false, [],
  .seq (.reg false [1, 2, 3] [⟨some 5, .load none (.t 0), none, 0, []⟩,
    ⟨some 6, .call (.f 213) [(.t 5)], none, 0, []⟩,
    ⟨some 3, .mv (.t 6), none, 0, []⟩])
  (.seq (.seq (.reg false [1, 2, 3, 8] [⟨some 7, .mv (.t 3), none, 0, []⟩,
    ⟨some 8, .call (.f 212) [(.t 7)], none, 0, []⟩])
  (.block 0 (.rangeF (.t 8) 237 210 [1])))
  (.seq (.reg false [2, 3] [⟨some 14, .mv (.t 3), none, 0, []⟩,
    ⟨some 15, .call (.f 208) [(.t 14)], none, 0, []⟩])
  (.reg false [] [⟨some 16, .mv (.t 3), none, 0, []⟩,
    ⟨some 17, .nilck (.t 16), none, 0, []⟩,
    ⟨some 18, .fad 2 (.t 17), none, 0, []⟩,
    ⟨some 19, .load none (.t 18), none, 0, []⟩,
    ⟨none, .store 1 (.t 2) (.t 19), none, 0, []⟩])))⟩
/-- a round of it -/
def file_Segments_1_rng : AFun := ⟨2, 20, true, [.t 0],
  .rnd 237 [9] (.reg false [1, 4] [⟨some 4, .alloc [.int .i64 0, .int .i64 0, .int .i64 0, .sl none 0 0 0, .sl none 0 0 0, .bool false, .sl none 0 0 0], none, 0, []⟩,
    ⟨none, .store 7 (.t 4) (.t 9), none, 0, []⟩])
  (.block 1 (.reg false [] [⟨some 10, .load none (.t 1), none, 0, []⟩,
    ⟨some 11, .load (some 7) (.t 4), none, 0, []⟩,
    ⟨some 12, .bslice 7 [.int .i64 0, .int .i64 0, .int .i64 0, .sl none 0 0 0, .sl none 0 0 0, .bool false, .sl none 0 0 0] 1 [(0, (.t 11))], none, 0, []⟩,
    ⟨some 13, .append 7 104 (.t 10) (.t 12), none, 0, []⟩,
    ⟨none, .store 1 (.t 1) (.t 13), none, 0, []⟩]))⟩

/-- A program that has them. -/
structure HasFs (P : Prog) : Prop where
  h_file_Segments : P 236 = some file_Segments
  h_file_Segments_1 : P 235 = some file_Segments_1
  h_file_Segments_1_rng : P 237 = some file_Segments_1_rng
  h_shut : P 210 = some cdShut

end Go.Ab
namespace Go.Ab
section
variable {P : Prog} {H : Heap} {R : List As} {Q : Out → Heap → Prop}
/-- A block that is no row of cells. -/
def ObA (b : Nat) (x : Obj) : As where
  ok F H := (∀ y, F y ↔ y = b) ∧ H.get b = x ∧ b < H.next
  st := fun ⟨h1, h2, h3⟩ hn he => ⟨h1, (he b ((h1 b).2 rfl)).trans h2, Nat.lt_of_lt_of_le h3 hn⟩
  lt := fun ⟨h1, _, h3⟩ b hb => by have := (h1 b).1 hb; omega
theorem Hs.oba {H : Heap} {b : Nat} {x : Obj} {R : List As} (h : Hs H (ObA b x :: R)) : H.get b = x := by obtain ⟨F, h1, _⟩ := h; exact h1.2.1
theorem Hs.oput {H : Heap} {b : Nat} {x y : Obj} {R : List As} (h : Hs H (ObA b x :: R)) : Hs (H.put b y) (ObA b y :: R) :=
  h.step fun F ⟨h1, h2, h3⟩ => ⟨fun x => x = b, F, Same.put rfl, fun x _ hx => (h1 x).2 hx, ⟨h1, by simp [get_put], h3⟩, fun _ h => Or.inl h⟩
theorem Hs.onew {H : Heap} {x : Obj} {R : List As} (h : Hs H R) : Hs (H.new x) (ObA H.next x :: R) :=
  h.new (Same.new _ _ _) ⟨fun x => x = H.next, ⟨fun _ => Iff.rfl, by simp [get_new], by simp [next_new]⟩, fun b hb => by omega⟩
/-- A round. -/
theorem rnd_of {y b np nt : Nat} {ps : List Nat} {asg bd : Cd} {tm : List (Nat × V)} {args : List V} (hg : P y = some ⟨np, nt, true, [.t 0], .rnd y ps asg bd⟩) (hn : args.length + 1 = np) (hb : H.get b = .lp y tm 0 none)
    (k : wpC (Call P) asg (fun e fr1 H1 => match e with
      | .normal => H1.get b = .lp y tm 0 none ∧ wpC (Call P) bd (fun e2 _ H2 => match e2 with
        | .normal => H2.get b = .lp y tm 1 none ∧ Q (.ret (.bool true)) (H2.put b (.lp y tm 0 none))
        | _ => False) fr1 (H1.put b (.lp y tm 1 none))
      | _ => False) ⟨layT ⟨frame0 0 (.yld y b :: args), []⟩ ps 1 tm, []⟩ H) : Call P y (.yld y b :: args) H Q := by
  refine call_body hg ⟨hn, ?_⟩
  have g0 : (⟨frame0 0 (.yld y b :: args), []⟩ : Fr).get 0 = some (.yld y b) := rfl
  simp only [wpC, g0, rndIn, rndAt, hb, true_and]
  refine wp_mono k fun e fr1 H1 he => ?_
  cases e with
  | normal =>
    obtain ⟨h1, h2⟩ := he
    simp only [h1, true_and]
    refine wp_mono h2 fun e2 fr2 H2 he2 => ?_
    cases e2 with
    | normal =>
      obtain ⟨h3, h4⟩ := he2
      simp only [h3, true_and]
      exact ⟨fun _ => by first | rfl | trivial, by simpa [evDs, resK, resOf, Fr.get, look, bundle] using h4⟩
    | _ => exact he2.elim
  | _ => exact he.elim
theorem ops_yc {X : Fr → V → Heap → Prop} {K : Fr → Heap → Prop} {d : Option Nat} {f : Opd} {args : List Opd} {ix : Nat} {re : List Nat} {r : List AOper} {fr : Fr} {y b : Nat} {l : List V}
    (hf : opd fr f = some (.yld y b)) (ha : opds fr args = some l) (k : Call P y (.yld y b :: l) H (fun out H' => match out with | .ret v => evOps (Call P) X K r (fr.put d v) H' | .pan _ => False)) :
    evOps (Call P) X K (⟨d, .yc f args, none, ix, re⟩ :: r) fr H := by
  simp only [evOps, evOp, hf, ha]
  exact k
/-- The statement, where the function passes a fault up. -/
theorem rangeF_pan {f : Opd} {y sh g : Nat} {live : List Nat} {first caps : List V} {Qp : Post} {fr : Fr} (hf : opd fr f = some (.fn g first caps))
    (k : Call P g (first ++ [.yld y (H.next + 1)] ++ caps) ((H.new .dfb).new (.lp y (keepL fr.tm live) 0 none)) fun out H' => match out with
      | .ret _ => False
      | .pan v => Qp (.pan v) (fr.mark sh H.next) H') : wpC (Call P) (.rangeF f y sh live) Qp fr H := by
  simp only [wpC, hf, rngFn]
  refine Call_mono k fun o H' ho => ?_
  cases o with
  | ret v => exact ho.elim
  | pan v => exact ho
theorem shut_ct {g b : Nat} (hg : P g = some cdShut) (hb : H.get b = .dfb) (hQ : Q (.ret (.tup [])) (H.put b .dead)) : Call P g [.ptr (some (b, 0))] H Q := by
  refine call_body hg ⟨rfl, ?_⟩
  simp only [cdShut, wpC, shutAt, Fr.get, frame0, look, if_pos, hb]
  exact ⟨fun _ => by first | rfl | trivial, by simpa [evDs, resK, resOf, bundle] using hQ⟩
set_option maxHeartbeats 1000000 in
theorem round_ct (hp : HasFs P) {lb lc n : Nat} {lv v1 v2 v3 : V} {n0 n1 n2 : Int} {st : Bool} {cs : List V} (hn : n ≤ 1000000) (o1 : IsSl v1) (o2 : IsSl v2) (o3 : IsSl v3)
    (hs : Hs H (ObA lb (.lp 237 [(1, .ptr (some (lc, 0)))] 0 none) :: Cel lc [lv] :: Lst lv 7 n cs :: R))
    (hQ : ∀ lv' cs' H', Hs H' (ObA lb (.lp 237 [(1, .ptr (some (lc, 0)))] 0 none) :: Cel lc [lv'] :: Lst lv' 7 (n + 1) cs' :: R) → Q (.ret (.bool true)) H') :
    Call P 237 [.yld 237 lb, .agg [.int .i64 n0, .int .i64 n1, .int .i64 n2, v1, v2, .bool st, v3]] H Q := by
  obtain ⟨a1, m1, z1, e1, rfl⟩ := o1
  obtain ⟨a2, m2, z2, e2, rfl⟩ := o2
  obtain ⟨a3, m3, z3, e3, rfl⟩ := o3
  refine rnd_of hp.h_file_Segments_1_rng rfl hs.oba ?_
  have g1 := hs.alloc (l := [.int .i64 n0, .int .i64 n1, .int .i64 n2, .sl a1 m1 z1 e1, .sl a2 m2 z2 e2, .bool st, .sl a3 m3 z3 e3])
  have e0 : layT (⟨frame0 0 [V.yld 237 lb, .agg [.int .i64 n0, .int .i64 n1, .int .i64 n2, .sl a1 m1 z1 e1, .sl a2 m2 z2 e2, .bool st, .sl a3 m3 z3 e3]], []⟩ : Fr) [9] 1 [(1, .ptr (some (lc, 0)))] = [(9, .agg [.int .i64 n0, .int .i64 n1, .int .i64 n2, .sl a1 m1 z1 e1, .sl a2 m2 z2 e2, .bool st, .sl a3 m3 z3 e3]), (1, .ptr (some (lc, 0)))] := rfl
  rw [e0]
  simp -implicitDefEqProofs -dsimp (disch := omega) only [go_sem, dec_t, dec_f, ]
  refine ⟨(Hs.p1 g1).oba, ?_⟩
  have g2 := (Hs.p1 g1).oput (y := .lp 237 [(1, .ptr (some (lc, 0)))] 1 none)
  have r2 := rd_s (Hs.p2 g2).cel
  have rm2 := rd_m (Hs.p1 g2).cel 7
  obtain ⟨lv', H3, k3, o3, s3, f3⟩ := app_oneT (e := 7) (eb := 104) (m := 1) (M := [.int .i64 n0, .int .i64 n1, .int .i64 n2, .sl a1 m1 z1 e1, .sl a2 m2 z2 e2, .bool st, .sl a3 m3 z3 e3]) (Hs.p3 g2).own rfl rfl (by omega) (by omega)
  have g3 := (Hs.p3 g2).lst' s3 o3 f3
  rw [next_put, next_new] at k3
  obtain ⟨a4, m4, z4, hlv⟩ := g3.own.arr.shape
  subst hlv
  have w3 := wr_s (Hs.p3 g3).cel 0
  have g4 := (Hs.p3 g3).put (l' := [.sl a4 (n + 1) m4 z4])
  simp -implicitDefEqProofs -dsimp (disch := omega) only [go_sem, dec_t, dec_f, r2, rm2, k3, w3]
  refine ⟨(Hs.p2 g4).oba, hQ _ _ _ (Hs.p3 ((Hs.p2 g4).oput (y := .lp 237 [(1, .ptr (some (lc, 0)))] 0 none))).tail⟩
end
end Go.Ab
