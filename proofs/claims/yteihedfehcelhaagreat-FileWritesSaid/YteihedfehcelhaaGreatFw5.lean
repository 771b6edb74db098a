/- Parts of a proof over an abstract machine: PFw, Fb, Fc, Fd, So, Se, Sf, Sn, Bz, By, Sr, Fe, PRf16, St, Su, Sv, PL17Writes. Conditions: none. -/
import Derived.ChangeArms
import Derived.WalkKit
import Derived.ProofKit
import Derived.OpenShut
import Derived.ShutString
import Derived.ChangeOld
import Derived.Below
import Derived.SizedLaws
import Derived.Test.YteihedfehcelhaaGreatFw1
import Derived.Test.YteihedfehcelhaaGreatFw2
import Derived.Test.YteihedfehcelhaaGreatFw3
import Derived.Test.YteihedfehcelhaaGreatFw4
set_option linter.all false
namespace Go.Ab
-- file_Write: 200, parameters ? ?; loops file_Write_l0 [1 ?, 11 ?, 12 ?, 87 ?, 88 ?, 89 ?]; file_Write_l1 [0 ?, 1 ?, 6 ?, 47 ?, 48 ?, 49 ?]; file_Write_l2 [0 ?, 1 ?, 6 ?, 20 ?, 21 ?, 22 ?]
-- file_Read: 199, parameters f; loops 
-- file_order_step: 202, parameters ? ?; loops file_order_step_l0 [0 ?, 3 ?, 23 ?, 24 ?, 25 ?]
-- file_caught: 204, parameters run; loops 
-- file_Read_1: 203, parameters   ; loops file_Read_1_l0 [2 , 5 h, 23 ]
-- file_order_may: 206, parameters ? ?; loops 
-- file_order_let: 205, parameters o s symbols; loops file_order_let_l0 [0 o, 2 symbols, 4 s, 9 , 10 , 11 ]
-- file_caught_1: 207, parameters ; loops 
-- file_opened: 213, parameters ?; loops 
-- file_reader_segments: 212, parameters r; loops 
-- file_reader_ended: 208, parameters r; loops 
-- file_pages_take: 211, parameters ? ?; loops 
-- slices_Sort_int_int: 185, parameters x; loops 
-- file_wrong: 214, parameters bad err; loops 
-- file_reader_segments_1: 215, parameters yield ; loops file_reader_segments_1_l0 [0 yield, 1 , 5 more]; file_reader_segments_1_l1 [0 yield, 1 , 13 , 14 , 15 ]
-- file_need: 216, parameters err; loops 
-- slices_pdqsortOrdered_int: 218, parameters ? ? ? ?; loops slices_pdqsortOrdered_int_l0 [0 ?, 1 ?, 2 ?, 3 ?, 8 ?, 9 ?]
-- math_bits_Len: 217, parameters x; loops 
-- file_reader_headers: 221, parameters r; loops file_reader_headers_l0 [0 r, 3 l]
-- file_reader_data: 219, parameters r length; loops 
-- file_reader_header: 220, parameters r; loops 
-- slices_insertionSortOrdered_int: 223, parameters data a b; loops slices_insertionSortOrdered_int_l0 [0 data, 1 a, 2 b, 6 i]; slices_insertionSortOrdered_int_l1 [0 data, 1 a, 2 b, 6 i, 7 j]
-- cmp_Less_int: 222, parameters x y; loops 
-- math_bits_Len32: 224, parameters x; loops 
-- math_bits_Len64: 112, parameters x; loops 
-- slices_Clone_byte_byte: 225, parameters s; loops 
-- cmp_isNaN_int: 226, parameters x; loops 
def file_Write_l2 : Cd := .seq (.reg false [0, 1, 6, 20, 21, 22, 23] [⟨some 23, .bin .lss .num (.t 22) (.t 21), none, 0, []⟩])
  (.seq (.cond (.t 23) (.skip)
  (.exit 0))
  (.seq (.block 1 (.seq (.reg false [0, 1, 6, 8, 20, 21, 22] [⟨some 24, .iad none 7 (.t 20) (.t 22), none, 0, []⟩,
    ⟨some 25, .load (some 7) (.t 24), none, 0, []⟩,
    ⟨some 8, .alloc [.int .i64 0, .int .i64 0, .int .i64 0, .sl none 0 0 0, .sl none 0 0 0, .bool false, .sl none 0 0 0], none, 0, []⟩,
    ⟨none, .store 7 (.t 8) (.t 25), none, 0, []⟩])
  (.seq (.reg false [0, 1, 6, 20, 21, 22, 28] [⟨some 26, .fad 1 (.t 8), none, 0, []⟩,
    ⟨some 27, .load none (.t 26), none, 0, []⟩,
    ⟨some 28, .bin .eql .num (.t 27) (.c (.int .i64 1)), none, 0, []⟩])
  (.cond (.t 28) (.reg false [0, 1, 6, 20, 21, 22] [⟨some 29, .mv (.t 6), none, 0, []⟩,
    ⟨some 30, .nilck (.t 29), none, 0, []⟩,
    ⟨some 31, .fad 2 (.t 30), none, 0, []⟩,
    ⟨some 32, .load none (.t 31), none, 0, []⟩,
    ⟨some 33, .bin .add .num (.t 32) (.c (.int .i64 1)), none, 0, []⟩,
    ⟨some 34, .nilck (.t 29), none, 0, []⟩,
    ⟨some 35, .fad 2 (.t 34), none, 0, []⟩,
    ⟨none, .store 1 (.t 35) (.t 33), none, 0, []⟩])
  (.skip)))))
  (.reg false [0, 1, 6, 20, 21, 22] [⟨some 36, .bin .add .num (.t 22) (.c (.int .i64 1)), none, 0, []⟩,
    ⟨some 22, .mv (.t 36), none, 0, []⟩])))
def file_Write_l1 : Cd := .seq (.reg false [0, 1, 6, 47, 48, 49, 50] [⟨some 50, .bin .lss .num (.t 49) (.t 48), none, 0, []⟩])
  (.seq (.cond (.t 50) (.skip)
  (.exit 2))
  (.seq (.block 3 (.seq (.reg false [0, 1, 6, 9, 10, 47, 48, 49] [⟨some 51, .mv (.t 49), none, 0, []⟩,
    ⟨some 52, .iad none 7 (.t 47) (.t 49), none, 0, []⟩,
    ⟨some 53, .load (some 7) (.t 52), none, 0, []⟩,
    ⟨some 10, .alloc [.int .i64 0, .int .i64 0, .int .i64 0, .sl none 0 0 0, .sl none 0 0 0, .bool false, .sl none 0 0 0], none, 0, []⟩,
    ⟨some 9, .mv (.t 51), none, 0, []⟩,
    ⟨none, .store 7 (.t 10) (.t 53), none, 0, []⟩])
  (.seq (.reg false [0, 1, 6, 47, 48, 49, 73] [⟨some 54, .load (some 7) (.t 10), none, 0, []⟩,
    ⟨some 55, .call (.f 154) [(.t 54)], none, 0, []⟩,
    ⟨some 56, .un .not (.t 55), none, 0, []⟩,
    ⟨some 57, .mv (.t 56), none, 0, []⟩,
    ⟨some 58, .fad 1 (.t 10), some (57, false), 0, []⟩,
    ⟨some 59, .load none (.t 58), some (57, false), 0, []⟩,
    ⟨some 60, .bin .eql .num (.t 59) (.c (.int .i64 7)), some (57, false), 0, []⟩,
    ⟨some 61, .mv (.t 9), some (57, false), 0, []⟩,
    ⟨some 62, .mv (.t 0), some (57, false), 0, []⟩,
    ⟨some 63, .len none (.t 62), some (57, false), 0, []⟩,
    ⟨some 64, .bin .sub .num (.t 63) (.c (.int .i64 1)), some (57, false), 0, []⟩,
    ⟨some 65, .bin .eql .num (.t 61) (.t 64), some (57, false), 0, []⟩,
    ⟨some 66, .bin .neq .bool (.t 60) (.t 65), some (57, false), 0, []⟩,
    ⟨some 67, .pick (.t 57) (.c (.bool true)) (.t 66), none, 0, []⟩,
    ⟨some 68, .mv (.t 67), none, 0, []⟩,
    ⟨some 69, .mv (.t 6), some (68, false), 0, []⟩,
    ⟨some 70, .load (some 7) (.t 10), some (68, false), 0, []⟩,
    ⟨some 71, .call (.f 202) [(.t 69), (.t 70)], some (68, false), 0, []⟩,
    ⟨some 72, .bin .neq .num (.t 71) (.c (.int .i64 0)), some (68, false), 0, []⟩,
    ⟨some 73, .pick (.t 68) (.c (.bool true)) (.t 72), none, 0, []⟩])
  (.cond (.t 73) (.seq (.reg false [4, 5] [⟨some 4, .mv (.c (.sl none 0 0 0)), none, 0, []⟩,
    ⟨some 5, .mv (.c (.int .i64 165)), none, 0, []⟩])
  (.ret))
  (.skip)))))
  (.reg false [0, 1, 6, 47, 48, 49] [⟨some 74, .bin .add .num (.t 49) (.c (.int .i64 1)), none, 0, []⟩,
    ⟨some 49, .mv (.t 74), none, 0, []⟩])))
def file_Write_l0 : Cd := .seq (.reg false [1, 11, 12, 87, 88, 89, 90] [⟨some 90, .bin .lss .num (.t 89) (.t 88), none, 0, []⟩])
  (.seq (.cond (.t 90) (.skip)
  (.exit 4))
  (.seq (.block 5 (.seq (.reg false [1, 11, 12, 14, 87, 88, 89] [⟨some 91, .iad none 7 (.t 87) (.t 89), none, 0, []⟩,
    ⟨some 92, .load (some 7) (.t 91), none, 0, []⟩,
    ⟨some 14, .alloc [.int .i64 0, .int .i64 0, .int .i64 0, .sl none 0 0 0, .sl none 0 0 0, .bool false, .sl none 0 0 0], none, 0, []⟩,
    ⟨none, .store 7 (.t 14) (.t 92), none, 0, []⟩])
  (.seq (.reg false [1, 11, 12, 14, 15, 16, 87, 88, 89] [⟨some 94, .load (some 7) (.t 14), none, 0, []⟩,
    ⟨some 95, .call (.f 156) [(.t 94)], none, 0, []⟩,
    ⟨some 93, .mv (.t 95), none, 0, []⟩,
    ⟨some 96, .ext 0 (.t 93), none, 0, []⟩,
    ⟨some 97, .ext 1 (.t 93), none, 0, []⟩,
    ⟨some 15, .mv (.t 96), none, 0, []⟩,
    ⟨some 16, .mv (.t 97), none, 0, []⟩])
  (.seq (.seq (.reg false [1, 11, 12, 14, 15, 87, 88, 89, 99] [⟨some 98, .mv (.t 16), none, 0, []⟩,
    ⟨some 99, .bin .neq .num (.t 98) (.c (.int .i64 0)), none, 0, []⟩])
  (.cond (.t 99) (.seq (.reg false [4, 5] [⟨some 4, .mv (.c (.sl none 0 0 0)), none, 0, []⟩,
    ⟨some 5, .mv (.c (.int .i64 165)), none, 0, []⟩])
  (.ret))
  (.skip)))
  (.seq (.reg false [1, 11, 12, 14, 87, 88, 89] [⟨some 100, .mv (.t 11), none, 0, []⟩,
    ⟨some 101, .mv (.t 15), none, 0, []⟩,
    ⟨some 102, .append 1 1 (.t 100) (.t 101), none, 0, []⟩,
    ⟨some 11, .mv (.t 102), none, 0, []⟩])
  (.seq (.reg false [1, 11, 12, 14, 87, 88, 89, 103] [⟨some 103, .mv (.t 1), none, 0, []⟩])
  (.cond (.t 103) (.reg false [1, 11, 12, 87, 88, 89] [⟨some 104, .mv (.t 12), none, 0, []⟩,
    ⟨some 105, .fad 6 (.t 14), none, 0, []⟩,
    ⟨some 106, .load none (.t 105), none, 0, []⟩,
    ⟨some 107, .append 1 1 (.t 104) (.t 106), none, 0, []⟩,
    ⟨some 12, .mv (.t 107), none, 0, []⟩])
  (.reg false [1, 11, 12, 87, 88, 89] [⟨some 108, .mv (.t 11), none, 0, []⟩,
    ⟨some 109, .fad 6 (.t 14), none, 0, []⟩,
    ⟨some 110, .load none (.t 109), none, 0, []⟩,
    ⟨some 111, .append 1 1 (.t 108) (.t 110), none, 0, []⟩,
    ⟨some 11, .mv (.t 111), none, 0, []⟩]))))))))
  (.reg false [1, 11, 12, 87, 88, 89] [⟨some 112, .bin .add .num (.t 89) (.c (.int .i64 1)), none, 0, []⟩,
    ⟨some 89, .mv (.t 112), none, 0, []⟩])))
/-- burin/file.Write -/
def file_Write : AFun := ⟨2, 116, true, [.t 4, .t 5],
  .seq (.reg false [0, 1] [⟨some 4, .mv (.c (.sl none 0 0 0)), none, 0, []⟩,
    ⟨some 5, .mv (.c (.int .i64 0)), none, 0, []⟩])
  (.seq (.reg false [0, 1, 6] [⟨some 17, .mp .mk, none, 0, []⟩,
    ⟨some 18, .build [.int .i64 0, .int .i64 0, .int .i64 0, .int .i64 0, .map none] [(4, 1, (.t 17))], none, 0, []⟩,
    ⟨some 19, .box 5 (.t 18), none, 0, []⟩,
    ⟨some 6, .mv (.t 19), none, 0, []⟩])
  (.seq (.seq (.reg false [0, 1, 6, 20, 21, 22] [⟨some 20, .mv (.t 0), none, 0, []⟩,
    ⟨some 21, .len none (.t 20), none, 0, []⟩,
    ⟨some 22, .mv (.c (.int .i64 0)), none, 0, []⟩])
  (.block 0 (.loop [0, 1, 6, 20, 21, 22] file_Write_l2)))
  (.seq (.seq (.reg false [0, 1, 6, 46] [⟨some 37, .mv (.t 6), none, 0, []⟩,
    ⟨some 38, .nilck (.t 37), none, 0, []⟩,
    ⟨some 39, .fad 2 (.t 38), none, 0, []⟩,
    ⟨some 40, .load none (.t 39), none, 0, []⟩,
    ⟨some 41, .bin .gtr .num (.t 40) (.c (.int .i64 64)), none, 0, []⟩,
    ⟨some 42, .mv (.t 41), none, 0, []⟩,
    ⟨some 43, .mv (.t 0), some (42, false), 0, []⟩,
    ⟨some 44, .len none (.t 43), some (42, false), 0, []⟩,
    ⟨some 45, .bin .eql .num (.t 44) (.c (.int .i64 0)), some (42, false), 0, []⟩,
    ⟨some 46, .pick (.t 42) (.c (.bool true)) (.t 45), none, 0, []⟩])
  (.cond (.t 46) (.seq (.reg false [4, 5] [⟨some 4, .mv (.c (.sl none 0 0 0)), none, 0, []⟩,
    ⟨some 5, .mv (.c (.int .i64 165)), none, 0, []⟩])
  (.ret))
  (.skip)))
  (.seq (.seq (.reg false [0, 1, 6, 47, 48, 49] [⟨some 47, .mv (.t 0), none, 0, []⟩,
    ⟨some 48, .len none (.t 47), none, 0, []⟩,
    ⟨some 49, .mv (.c (.int .i64 0)), none, 0, []⟩])
  (.block 2 (.loop [0, 1, 6, 47, 48, 49] file_Write_l1)))
  (.seq (.reg false [0, 1, 11] [⟨some 75, .bslice 1 [.int .u8 0] 4 [(0, (.c (.int .u8 66))), (1, (.c (.int .u8 85))), (2, (.c (.int .u8 82))), (3, (.c (.int .u8 1)))], none, 0, []⟩,
    ⟨some 76, .mp (.mark (.t 75)), none, 0, []⟩,
    ⟨some 77, .mv (.t 6), none, 0, []⟩,
    ⟨some 78, .nilck (.t 77), none, 0, []⟩,
    ⟨some 79, .fad 2 (.t 78), none, 0, []⟩,
    ⟨some 80, .load none (.t 79), none, 0, []⟩,
    ⟨some 81, .conv .u8 (.t 80), none, 0, []⟩,
    ⟨some 82, .bslice 1 [.int .u8 0] 2 [(0, (.c (.int .u8 0))), (1, (.t 81))], none, 0, []⟩,
    ⟨some 83, .append 1 1 (.t 76) (.t 82), none, 0, []⟩,
    ⟨some 11, .mv (.t 83), none, 0, []⟩])
  (.seq (.reg false [0, 1, 11, 12] [⟨some 12, .mv (.c (.sl none 0 0 0)), none, 0, []⟩])
  (.seq (.seq (.reg false [0, 1, 11, 12, 84] [⟨some 84, .mv (.t 1), none, 0, []⟩])
  (.cond (.t 84) (.reg false [0, 1, 11, 12] [⟨some 85, .mv (.t 11), none, 0, []⟩,
    ⟨some 86, .iad none 1 (.t 85) (.c (.int .i64 4)), none, 0, []⟩,
    ⟨none, .store 1 (.t 86) (.c (.int .u8 1)), none, 0, []⟩])
  (.skip)))
  (.seq (.seq (.reg false [1, 11, 12, 87, 88, 89] [⟨some 87, .mv (.t 0), none, 0, []⟩,
    ⟨some 88, .len none (.t 87), none, 0, []⟩,
    ⟨some 89, .mv (.c (.int .i64 0)), none, 0, []⟩])
  (.block 4 (.loop [1, 11, 12, 87, 88, 89] file_Write_l0)))
  (.seq (.reg false [4, 5] [⟨some 113, .mv (.t 11), none, 0, []⟩,
    ⟨some 114, .mv (.t 12), none, 0, []⟩,
    ⟨some 115, .append 1 1 (.t 113) (.t 114), none, 0, []⟩,
    ⟨some 4, .mv (.t 115), none, 0, []⟩,
    ⟨some 5, .mv (.c (.int .i64 0)), none, 0, []⟩])
  (.ret))))))))))⟩

/-- burin/file.Read -/
def file_Read : AFun := ⟨1, 20, true, [.t 2, .cell 3 none, .t 4],
  .seq (.reg false [1, 3] [⟨some 1, .box 1 (.t 0), none, 0, []⟩,
    ⟨some 2, .mv (.c (.sl none 0 0 0)), none, 0, []⟩,
    ⟨some 3, .alloc [.sl none 0 0 0], none, 0, []⟩,
    ⟨some 4, .mv (.c (.int .i64 0)), none, 0, []⟩])
  (.seq (.reg false [1, 3, 5] [⟨some 6, .mp .mk, none, 0, []⟩,
    ⟨some 7, .build [.int .i64 0, .int .i64 0, .int .i64 0, .int .i64 0, .map none] [(4, 1, (.t 6))], none, 0, []⟩,
    ⟨some 8, .build [.int .i64 0, .int .i64 0, .int .i64 0, .int .i64 0, .map none, .ptr none, .sl none 0 0 0] [(0, 5, (.t 7))], none, 0, []⟩,
    ⟨some 9, .box 7 (.t 8), none, 0, []⟩,
    ⟨some 5, .alloc [.ptr none], none, 0, []⟩,
    ⟨none, .store 1 (.t 5) (.t 9), none, 0, []⟩])
  (.seq (.reg false [3, 4, 5] [⟨some 10, .mkfn 203 [] [(.t 1), (.t 5), (.t 3)], none, 0, []⟩,
    ⟨some 11, .call (.f 204) [(.t 10)], none, 0, []⟩,
    ⟨some 4, .mv (.t 11), none, 0, []⟩])
  (.seq (.seq (.reg false [3, 4, 5, 13] [⟨some 12, .mv (.t 4), none, 0, []⟩,
    ⟨some 13, .bin .neq .num (.t 12) (.c (.int .i64 0)), none, 0, []⟩])
  (.cond (.t 13) (.seq (.reg false [2, 3, 4] [⟨some 14, .mv (.t 4), none, 0, []⟩,
    ⟨some 2, .mv (.c (.sl none 0 0 0)), none, 0, []⟩,
    ⟨none, .store 1 (.t 3) (.c (.sl none 0 0 0)), none, 0, []⟩,
    ⟨some 4, .mv (.t 14), none, 0, []⟩])
  (.ret))
  (.skip)))
  (.seq (.reg true [2, 3, 4] [⟨some 15, .load none (.t 5), none, 0, []⟩,
    ⟨some 16, .nilck (.t 15), none, 1, []⟩,
    ⟨some 17, .fad 6 (.t 16), none, 2, []⟩,
    ⟨some 18, .load none (.t 17), none, 3, []⟩,
    ⟨some 19, .load none (.t 3), none, 4, []⟩,
    ⟨some 2, .mv (.t 18), none, 5, []⟩,
    ⟨none, .store 1 (.t 3) (.t 19), none, 6, []⟩,
    ⟨some 4, .mv (.c (.int .i64 0)), none, 7, []⟩])
  (.ret)))))⟩

def file_order_step_l0 : Cd := .seq (.reg false [0, 3, 23, 24, 25, 26] [⟨some 26, .bin .lss .num (.t 25) (.t 24), none, 0, []⟩])
  (.seq (.cond (.t 26) (.skip)
  (.exit 1))
  (.seq (.block 2 (.seq (.reg false [0, 3, 6, 23, 24, 25] [⟨some 27, .iad none 1 (.t 23) (.t 25), none, 0, []⟩,
    ⟨some 28, .load none (.t 27), none, 0, []⟩,
    ⟨some 6, .mv (.t 28), none, 0, []⟩])
  (.seq (.reg false [0, 3, 8, 23, 24, 25] [⟨some 30, .mv (.t 0), none, 0, []⟩,
    ⟨some 31, .nilck (.t 30), none, 0, []⟩,
    ⟨some 32, .fad 4 (.t 31), none, 0, []⟩,
    ⟨some 33, .load none (.t 32), none, 0, []⟩,
    ⟨some 34, .mv (.t 6), none, 0, []⟩,
    ⟨some 35, .mp (.look (.agg [.sl none 0 0 0]) true (.t 33) (.t 34)), none, 0, []⟩,
    ⟨some 29, .mv (.t 35), none, 0, []⟩,
    ⟨some 36, .ext 0 (.t 29), none, 0, []⟩,
    ⟨some 37, .ext 1 (.t 29), none, 0, []⟩,
    ⟨some 7, .alloc [.sl none 0 0 0], none, 0, []⟩,
    ⟨none, .store 1 (.t 7) (.t 36), none, 0, []⟩,
    ⟨some 8, .mv (.t 37), none, 0, []⟩])
  (.seq (.reg false [0, 3, 23, 24, 25, 39] [⟨some 38, .mv (.t 8), none, 0, []⟩,
    ⟨some 39, .un .not (.t 38), none, 0, []⟩])
  (.cond (.t 39) (.seq (.reg false [4] [⟨some 4, .mv (.c (.int .i64 162)), none, 0, []⟩])
  (.ret))
  (.skip))))))
  (.reg false [0, 3, 23, 24, 25] [⟨some 40, .bin .add .num (.t 25) (.c (.int .i64 1)), none, 0, []⟩,
    ⟨some 25, .mv (.t 40), none, 0, []⟩])))
/-- (*burin/file.order).step -/
def file_order_step : AFun := ⟨2, 70, true, [.t 4],
  .seq (.reg false [0, 3] [⟨some 3, .box 7 (.t 1), none, 0, []⟩,
    ⟨some 4, .mv (.c (.int .i64 0)), none, 0, []⟩])
  (.seq (.block 0 (.seq (.reg true [0, 3, 9] [⟨some 10, .fad 0 (.t 3), none, 0, []⟩,
    ⟨some 11, .load none (.t 10), none, 1, []⟩,
    ⟨some 12, .mv (.t 0), none, 2, []⟩,
    ⟨some 13, .nilck (.t 12), none, 3, []⟩,
    ⟨some 14, .fad 0 (.t 13), none, 4, []⟩,
    ⟨some 15, .load none (.t 14), none, 5, []⟩,
    ⟨some 16, .bin .neq .num (.t 11) (.t 15), none, 6, []⟩,
    ⟨some 9, .mv (.t 16), none, 7, []⟩])
  (.cond (.t 9) (.seq (.reg false [4] [⟨some 4, .mv (.c (.int .i64 161)), none, 0, []⟩])
  (.ret))
  (.seq (.reg false [0, 3, 17] [⟨some 18, .mv (.t 0), none, 0, []⟩,
    ⟨some 19, .load (some 7) (.t 3), none, 0, []⟩,
    ⟨some 20, .call (.f 206) [(.t 18), (.t 19)], none, 0, []⟩,
    ⟨some 21, .un .not (.t 20), none, 0, []⟩,
    ⟨some 17, .mv (.t 21), none, 0, []⟩])
  (.cond (.t 17) (.seq (.reg false [4] [⟨some 4, .mv (.c (.int .i64 151)), none, 0, []⟩])
  (.ret))
  (.skip))))))
  (.seq (.seq (.reg false [0, 3, 23, 24, 25] [⟨some 22, .fad 3 (.t 3), none, 0, []⟩,
    ⟨some 23, .load none (.t 22), none, 0, []⟩,
    ⟨some 24, .len none (.t 23), none, 0, []⟩,
    ⟨some 25, .mv (.c (.int .i64 0)), none, 0, []⟩])
  (.block 1 (.loop [0, 3, 23, 24, 25] file_order_step_l0)))
  (.seq (.reg false [0, 3] [⟨some 41, .mv (.t 0), none, 0, []⟩,
    ⟨some 42, .nilck (.t 41), none, 0, []⟩,
    ⟨some 43, .fad 0 (.t 42), none, 0, []⟩,
    ⟨some 44, .load none (.t 43), none, 0, []⟩,
    ⟨some 45, .bin .add .num (.t 44) (.c (.int .i64 1)), none, 0, []⟩,
    ⟨some 46, .nilck (.t 41), none, 0, []⟩,
    ⟨some 47, .fad 0 (.t 46), none, 0, []⟩,
    ⟨none, .store 1 (.t 47) (.t 45), none, 0, []⟩])
  (.seq (.seq (.reg false [0, 3, 49] [⟨some 48, .fad 1 (.t 3), none, 0, []⟩,
    ⟨some 49, .load none (.t 48), none, 0, []⟩])
  (.block 3 (.seq (.reg false [0, 3, 49, 50] [⟨some 51, .bin .eql .num (.t 49) (.c (.int .i64 1)), none, 0, []⟩,
    ⟨some 50, .mv (.t 51), none, 0, []⟩])
  (.cond (.t 50) (.reg true [0, 3] [⟨some 52, .mv (.t 0), none, 0, []⟩,
    ⟨some 53, .mv (.t 0), none, 1, []⟩,
    ⟨some 54, .fad 2 (.t 3), none, 2, []⟩,
    ⟨some 55, .load none (.t 54), none, 3, []⟩,
    ⟨some 56, .fad 2 (.t 3), none, 4, []⟩,
    ⟨some 57, .load none (.t 56), none, 5, []⟩,
    ⟨some 58, .nilck (.t 52), none, 6, []⟩,
    ⟨some 59, .fad 3 (.t 58), none, 7, []⟩,
    ⟨none, .store 1 (.t 59) (.t 55), none, 8, [5]⟩,
    ⟨some 60, .nilck (.t 53), none, 9, []⟩,
    ⟨some 61, .fad 1 (.t 60), none, 10, []⟩,
    ⟨none, .store 1 (.t 61) (.t 57), none, 11, []⟩])
  (.seq (.reg false [0, 3, 62] [⟨some 63, .bin .eql .num (.t 49) (.c (.int .i64 6)), none, 0, []⟩,
    ⟨some 62, .mv (.t 63), none, 0, []⟩])
  (.cond (.t 62) (.reg false [0, 3] [⟨some 64, .mv (.t 0), none, 0, []⟩,
    ⟨some 65, .nilck (.t 64), none, 0, []⟩,
    ⟨some 66, .fad 3 (.t 65), none, 0, []⟩,
    ⟨none, .store 1 (.t 66) (.c (.int .i64 0)), none, 0, []⟩])
  (.skip)))))))
  (.seq (.reg false [] [⟨some 67, .mv (.t 0), none, 0, []⟩,
    ⟨some 68, .load (some 7) (.t 3), none, 0, []⟩,
    ⟨some 69, .call (.f 205) [(.t 67), (.t 68), (.c (.sl none 0 0 0))], none, 0, []⟩])
  (.seq (.reg false [4] [⟨some 4, .mv (.c (.int .i64 0)), none, 0, []⟩])
  (.ret)))))))⟩

/-- burin/file.caught -/
def file_caught : AFun := ⟨1, 6, false, [.cell 2 none],
  .seq (.reg false [0, 2] [⟨some 2, .alloc [.int .i64 0], none, 0, []⟩])
  (.seq (.reg false [0, 2] [⟨some 3, .mkfn 207 [] [(.t 2)], none, 0, []⟩,
    ⟨none, .dfr (.t 3) [], none, 0, []⟩])
  (.seq (.reg false [2] [⟨some 4, .mv (.t 0), none, 0, []⟩,
    ⟨some 5, .call (.t 4) [], none, 0, []⟩])
  (.seq (.reg false [2] [⟨none, .store 1 (.t 2) (.c (.int .i64 0)), none, 0, []⟩])
  (.ret))))⟩

def file_Read_1_l0 : Cd := .seq (.reg false [2, 5, 23, 25] [⟨some 24, .mp (.next (.t 23)), none, 0, []⟩,
    ⟨some 25, .ext 0 (.t 24), none, 0, []⟩])
  (.seq (.cond (.t 25) (.skip)
  (.exit 2))
  (.block 3 (.seq (.reg false [2, 5, 6, 23] [⟨some 26, .mp (.entry (.t 23)), none, 0, []⟩,
    ⟨some 27, .ext 0 (.t 26), none, 0, []⟩,
    ⟨some 6, .mv (.t 27), none, 0, []⟩])
  (.reg false [2, 5, 23] [⟨some 28, .fad 1 (.t 5), none, 0, []⟩,
    ⟨some 29, .load none (.t 28), none, 0, []⟩,
    ⟨some 30, .mv (.t 6), none, 0, []⟩,
    ⟨some 31, .bslice 1 [.int .i64 0] 1 [(0, (.t 30))], none, 0, []⟩,
    ⟨some 32, .append 1 8 (.t 29) (.t 31), none, 0, []⟩,
    ⟨some 33, .fad 1 (.t 5), none, 0, []⟩,
    ⟨none, .store 1 (.t 33) (.t 32), none, 0, []⟩]))))
/-- burin/file.Read$1 -/
def file_Read_1 : AFun := ⟨3, 43, false, [],
  .seq (.reg false [1, 2, 3] [⟨some 7, .load none (.t 0), none, 0, []⟩,
    ⟨some 8, .call (.f 213) [(.t 7)], none, 0, []⟩,
    ⟨some 3, .mv (.t 8), none, 0, []⟩])
  (.seq (.seq (.reg false [1, 2, 3, 10] [⟨some 9, .mv (.t 3), none, 0, []⟩,
    ⟨some 10, .call (.f 212) [(.t 9)], none, 0, []⟩])
  (.block 0 (.rangeF (.t 10) 209 210 [1, 2])))
  (.reg false [] [⟨some 41, .mv (.t 3), none, 0, []⟩,
    ⟨some 42, .call (.f 208) [(.t 41)], none, 0, []⟩]))⟩
/-- a round of it -/
def file_Read_1_rng : AFun := ⟨2, 43, true, [.t 0],
  .rnd 209 [11] (.reg false [1, 2, 4] [⟨some 4, .alloc [.int .i64 0, .int .i64 0, .int .i64 0, .sl none 0 0 0, .sl none 0 0 0, .bool false, .sl none 0 0 0], none, 0, []⟩,
    ⟨none, .store 7 (.t 4) (.t 11), none, 0, []⟩])
  (.block 1 (.seq (.reg false [1, 2, 4] [⟨some 12, .load none (.t 1), none, 0, []⟩,
    ⟨some 13, .load (some 7) (.t 4), none, 0, []⟩,
    ⟨some 14, .call (.f 211) [(.t 12), (.t 13)], none, 0, []⟩])
  (.seq (.reg false [1, 2, 5] [⟨some 15, .fad 0 (.t 4), none, 0, []⟩,
    ⟨some 16, .load none (.t 15), none, 0, []⟩,
    ⟨some 17, .build [.int .i64 0, .sl none 0 0 0] [(0, 1, (.t 16))], none, 0, []⟩,
    ⟨some 5, .alloc [.int .i64 0, .sl none 0 0 0], none, 0, []⟩,
    ⟨none, .store 2 (.t 5) (.t 17), none, 0, []⟩])
  (.seq (.seq (.reg false [2, 5, 23] [⟨some 18, .load none (.t 1), none, 0, []⟩,
    ⟨some 19, .nilck (.t 18), none, 0, []⟩,
    ⟨some 20, .fad 0 (.t 19), none, 0, []⟩,
    ⟨some 21, .fad 4 (.t 20), none, 0, []⟩,
    ⟨some 22, .load none (.t 21), none, 0, []⟩,
    ⟨some 23, .mp (.range (.t 22)), none, 0, []⟩])
  (.block 2 (.loop [2, 5, 23] file_Read_1_l0)))
  (.seq (.reg false [2, 5] [⟨some 34, .fad 1 (.t 5), none, 0, []⟩,
    ⟨some 35, .load none (.t 34), none, 0, []⟩,
    ⟨some 36, .call (.f 185) [(.t 35)], none, 0, []⟩])
  (.reg false [] [⟨some 37, .load none (.t 2), none, 0, []⟩,
    ⟨some 38, .load (some 2) (.t 5), none, 0, []⟩,
    ⟨some 39, .bslice 2 [.int .i64 0, .sl none 0 0 0] 1 [(0, (.t 38))], none, 0, []⟩,
    ⟨some 40, .append 2 32 (.t 37) (.t 39), none, 0, []⟩,
    ⟨none, .store 1 (.t 2) (.t 40), none, 0, []⟩]))))))⟩

/-- (*burin/file.order).may -/
def file_order_may : AFun := ⟨2, 79, true, [.t 4],
  .seq (.reg false [0, 3] [⟨some 3, .box 7 (.t 1), none, 0, []⟩,
    ⟨some 4, .mv (.c (.bool false)), none, 0, []⟩])
  (.seq (.seq (.reg false [0, 3, 6] [⟨some 5, .fad 1 (.t 3), none, 0, []⟩,
    ⟨some 6, .load none (.t 5), none, 0, []⟩])
  (.block 0 (.seq (.reg false [0, 3, 6, 7] [⟨some 8, .bin .eql .num (.t 6) (.c (.int .i64 1)), none, 0, []⟩,
    ⟨some 7, .mv (.t 8), none, 0, []⟩])
  (.cond (.t 7) (.seq (.reg true [4] [⟨some 9, .mv (.t 0), none, 0, []⟩,
    ⟨some 10, .nilck (.t 9), none, 1, []⟩,
    ⟨some 11, .fad 3 (.t 10), none, 2, []⟩,
    ⟨some 12, .load none (.t 11), none, 3, []⟩,
    ⟨some 13, .bin .eql .num (.t 12) (.c (.int .i64 0)), none, 4, []⟩,
    ⟨some 14, .mv (.t 13), none, 5, []⟩,
    ⟨some 15, .fad 2 (.t 3), some (14, true), 6, []⟩,
    ⟨some 16, .load none (.t 15), some (14, true), 7, []⟩,
    ⟨some 17, .mv (.t 0), some (14, true), 8, []⟩,
    ⟨some 18, .nilck (.t 17), some (14, true), 9, []⟩,
    ⟨some 19, .fad 1 (.t 18), some (14, true), 10, []⟩,
    ⟨some 20, .load none (.t 19), some (14, true), 11, []⟩,
    ⟨some 21, .bin .add .num (.t 20) (.c (.int .i64 1)), some (14, true), 12, []⟩,
    ⟨some 22, .bin .eql .num (.t 16) (.t 21), some (14, true), 13, []⟩,
    ⟨some 23, .pick (.t 14) (.t 22) (.c (.bool false)), none, 14, []⟩,
    ⟨some 24, .mv (.t 23), none, 15, []⟩,
    ⟨some 25, .fad 2 (.t 3), some (24, true), 16, []⟩,
    ⟨some 26, .load none (.t 25), some (24, true), 17, []⟩,
    ⟨some 27, .mv (.t 0), some (24, true), 18, []⟩,
    ⟨some 28, .nilck (.t 27), some (24, true), 19, []⟩,
    ⟨some 29, .fad 2 (.t 28), some (24, true), 20, []⟩,
    ⟨some 30, .load none (.t 29), some (24, true), 21, []⟩,
    ⟨some 31, .bin .leq .num (.t 26) (.t 30), some (24, true), 22, []⟩,
    ⟨some 32, .pick (.t 24) (.t 31) (.c (.bool false)), none, 23, []⟩,
    ⟨some 4, .mv (.t 32), none, 24, []⟩])
  (.ret))
  (.seq (.reg false [0, 3, 6, 33] [⟨some 34, .bin .eql .num (.t 6) (.c (.int .i64 2)), none, 0, []⟩,
    ⟨some 33, .mv (.t 34), none, 0, []⟩])
  (.cond (.t 33) (.seq (.reg true [4] [⟨some 35, .fad 2 (.t 3), none, 0, []⟩,
    ⟨some 36, .load none (.t 35), none, 1, []⟩,
    ⟨some 37, .bin .eql .num (.t 36) (.c (.int .i64 0)), none, 2, []⟩,
    ⟨some 38, .mv (.t 37), none, 3, []⟩,
    ⟨some 39, .fad 2 (.t 3), some (38, false), 4, []⟩,
    ⟨some 40, .load none (.t 39), some (38, false), 5, []⟩,
    ⟨some 41, .mv (.t 0), some (38, false), 6, []⟩,
    ⟨some 42, .nilck (.t 41), some (38, false), 7, []⟩,
    ⟨some 43, .fad 3 (.t 42), some (38, false), 8, []⟩,
    ⟨some 44, .load none (.t 43), some (38, false), 9, []⟩,
    ⟨some 45, .bin .eql .num (.t 40) (.t 44), some (38, false), 10, []⟩,
    ⟨some 46, .pick (.t 38) (.c (.bool true)) (.t 45), none, 11, []⟩,
    ⟨some 4, .mv (.t 46), none, 12, []⟩])
  (.ret))
  (.seq (.reg false [0, 3, 47] [⟨some 48, .bin .eql .num (.t 6) (.c (.int .i64 7)), none, 0, []⟩,
    ⟨some 47, .mv (.t 48), none, 0, []⟩])
  (.cond (.t 47) (.seq (.reg true [4] [⟨some 49, .mv (.t 0), none, 0, []⟩,
    ⟨some 50, .nilck (.t 49), none, 1, []⟩,
    ⟨some 51, .fad 3 (.t 50), none, 2, []⟩,
    ⟨some 52, .load none (.t 51), none, 3, []⟩,
    ⟨some 53, .bin .eql .num (.t 52) (.c (.int .i64 0)), none, 4, []⟩,
    ⟨some 54, .mv (.t 53), none, 5, []⟩,
    ⟨some 55, .mv (.t 0), some (54, true), 6, []⟩,
    ⟨some 56, .nilck (.t 55), some (54, true), 7, []⟩,
    ⟨some 57, .fad 1 (.t 56), some (54, true), 8, []⟩,
    ⟨some 58, .load none (.t 57), some (54, true), 9, []⟩,
    ⟨some 59, .mv (.t 0), some (54, true), 10, []⟩,
    ⟨some 60, .nilck (.t 59), some (54, true), 11, []⟩,
    ⟨some 61, .fad 2 (.t 60), some (54, true), 12, []⟩,
    ⟨some 62, .load none (.t 61), some (54, true), 13, []⟩,
    ⟨some 63, .bin .eql .num (.t 58) (.t 62), some (54, true), 14, []⟩,
    ⟨some 64, .pick (.t 54) (.t 63) (.c (.bool false)), none, 15, []⟩,
    ⟨some 4, .mv (.t 64), none, 16, []⟩])
  (.ret))
  (.skip)))))))))
  (.seq (.reg true [4] [⟨some 65, .mv (.t 0), none, 0, []⟩,
    ⟨some 66, .nilck (.t 65), none, 1, []⟩,
    ⟨some 67, .fad 3 (.t 66), none, 2, []⟩,
    ⟨some 68, .load none (.t 67), none, 3, []⟩,
    ⟨some 69, .bin .neq .num (.t 68) (.c (.int .i64 0)), none, 4, []⟩,
    ⟨some 70, .mv (.t 69), none, 5, []⟩,
    ⟨some 71, .fad 2 (.t 3), some (70, true), 6, []⟩,
    ⟨some 72, .load none (.t 71), some (70, true), 7, []⟩,
    ⟨some 73, .mv (.t 0), some (70, true), 8, []⟩,
    ⟨some 74, .nilck (.t 73), some (70, true), 9, []⟩,
    ⟨some 75, .fad 3 (.t 74), some (70, true), 10, []⟩,
    ⟨some 76, .load none (.t 75), some (70, true), 11, []⟩,
    ⟨some 77, .bin .eql .num (.t 72) (.t 76), some (70, true), 12, []⟩,
    ⟨some 78, .pick (.t 70) (.t 77) (.c (.bool false)), none, 13, []⟩,
    ⟨some 4, .mv (.t 78), none, 14, []⟩])
  (.ret)))⟩

def file_order_let_l0 : Cd := .seq (.reg false [0, 2, 4, 9, 10, 11, 12] [⟨some 12, .bin .lss .num (.t 11) (.t 10), none, 0, []⟩])
  (.seq (.cond (.t 12) (.skip)
  (.exit 0))
  (.seq (.block 1 (.seq (.reg false [0, 2, 4, 6, 7, 9, 10, 11] [⟨some 13, .mv (.t 11), none, 0, []⟩,
    ⟨some 14, .iad none 1 (.t 9) (.t 11), none, 0, []⟩,
    ⟨some 15, .load none (.t 14), none, 0, []⟩,
    ⟨some 6, .mv (.t 13), none, 0, []⟩,
    ⟨some 7, .mv (.t 15), none, 0, []⟩])
  (.seq (.reg false [0, 2, 4, 7, 9, 10, 11, 21] [⟨some 16, .fad 4 (.t 4), none, 0, []⟩,
    ⟨some 17, .load none (.t 16), none, 0, []⟩,
    ⟨some 18, .mv (.t 6), none, 0, []⟩,
    ⟨some 19, .iad none 1 (.t 17) (.t 18), none, 0, []⟩,
    ⟨some 20, .load none (.t 19), none, 0, []⟩,
    ⟨some 21, .un .not (.t 20), none, 0, []⟩])
  (.cond (.t 21) (.reg false [0, 2, 4, 9, 10, 11] [⟨some 22, .mv (.t 0), none, 0, []⟩,
    ⟨some 23, .nilck (.t 22), none, 0, []⟩,
    ⟨some 24, .fad 4 (.t 23), none, 0, []⟩,
    ⟨some 25, .load none (.t 24), none, 0, []⟩,
    ⟨some 26, .mv (.t 7), none, 0, []⟩,
    ⟨none, .mp (.del (.t 25) (.t 26)), none, 0, []⟩])
  (.skip)))))
  (.reg false [0, 2, 4, 9, 10, 11] [⟨some 27, .bin .add .num (.t 11) (.c (.int .i64 1)), none, 0, []⟩,
    ⟨some 11, .mv (.t 27), none, 0, []⟩])))
/-- (*burin/file.order).let -/
def file_order_let : AFun := ⟨3, 38, true, [],
  .seq (.reg false [0, 2, 4] [⟨some 4, .box 7 (.t 1), none, 0, []⟩])
  (.seq (.seq (.reg false [0, 2, 4, 9, 10, 11] [⟨some 8, .fad 3 (.t 4), none, 0, []⟩,
    ⟨some 9, .load none (.t 8), none, 0, []⟩,
    ⟨some 10, .len none (.t 9), none, 0, []⟩,
    ⟨some 11, .mv (.c (.int .i64 0)), none, 0, []⟩])
  (.block 0 (.loop [0, 2, 4, 9, 10, 11] file_order_let_l0)))
  (.seq (.reg false [0, 2, 4, 29] [⟨some 28, .fad 5 (.t 4), none, 0, []⟩,
    ⟨some 29, .load none (.t 28), none, 0, []⟩])
  (.cond (.t 29) (.reg true [] [⟨some 30, .mv (.t 0), none, 0, []⟩,
    ⟨some 31, .nilck (.t 30), none, 1, []⟩,
    ⟨some 32, .fad 4 (.t 31), none, 2, []⟩,
    ⟨some 33, .load none (.t 32), none, 3, []⟩,
    ⟨some 34, .fad 0 (.t 4), none, 4, []⟩,
    ⟨some 35, .load none (.t 34), none, 5, []⟩,
    ⟨some 36, .mv (.t 2), none, 6, []⟩,
    ⟨some 37, .build [.sl none 0 0 0] [(0, 1, (.t 36))], none, 7, []⟩,
    ⟨none, .mp (.upd (.t 33) (.t 35) (.t 37)), none, 8, []⟩])
  (.skip))))⟩

/-- burin/file.caught$1 -/
def file_caught_1 : AFun := ⟨1, 17, false, [],
  .recov 4 (.seq (.reg false [0, 1] [⟨some 1, .mv (.t 4), none, 0, []⟩])
  (.seq (.reg false [0, 1, 6] [⟨some 5, .mv (.t 1), none, 0, []⟩,
    ⟨some 6, .isnil true (.t 5), none, 0, []⟩])
  (.cond (.t 6) (.seq (.reg false [0, 1, 2, 3] [⟨some 8, .mv (.t 1), none, 0, []⟩,
    ⟨some 9, .asrt 1 (.t 8), none, 0, []⟩,
    ⟨some 7, .mv (.t 9), none, 0, []⟩,
    ⟨some 10, .ext 0 (.t 7), none, 0, []⟩,
    ⟨some 11, .ext 1 (.t 7), none, 0, []⟩,
    ⟨some 2, .alloc [.int .i64 0], none, 0, []⟩,
    ⟨none, .store 1 (.t 2) (.t 10), none, 0, []⟩,
    ⟨some 3, .mv (.t 11), none, 0, []⟩])
  (.seq (.seq (.reg false [0, 1, 2, 13] [⟨some 12, .mv (.t 3), none, 0, []⟩,
    ⟨some 13, .un .not (.t 12), none, 0, []⟩])
  (.cond (.t 13) (.reg false [0, 2] [⟨some 14, .mv (.t 1), none, 0, []⟩,
    ⟨none, .pan (.t 14), none, 0, []⟩])
  (.skip)))
  (.reg false [] [⟨some 15, .fad 0 (.t 2), none, 0, []⟩,
    ⟨some 16, .load none (.t 15), none, 0, []⟩,
    ⟨none, .store 1 (.t 0) (.t 16), none, 0, []⟩])))
  (.skip))))⟩

/-- burin/file.opened -/
def file_opened : AFun := ⟨1, 73, true, [.t 2],
  .seq (.reg false [0] [⟨some 2, .mv (.c (.ptr none)), none, 0, []⟩])
  (.seq (.reg false [0] [⟨some 8, .mv (.t 0), none, 0, []⟩,
    ⟨some 9, .len none (.t 8), none, 0, []⟩,
    ⟨some 10, .bin .lss .num (.t 9) (.c (.int .i64 4)), none, 0, []⟩,
    ⟨some 11, .mv (.t 10), none, 0, []⟩,
    ⟨some 12, .mv (.t 0), some (11, false), 0, []⟩,
    ⟨some 13, .slice 1 (.t 12) none (some (.c (.int .i64 4))) none, some (11, false), 0, []⟩,
    ⟨some 14, .mp (.b2s (.t 13)), some (11, false), 0, []⟩,
    ⟨some 15, .bin .neq .num (.t 14) (.c (.str ⟨#[66, 85, 82, 1]⟩)), some (11, false), 0, []⟩,
    ⟨some 16, .pick (.t 11) (.c (.bool true)) (.t 15), none, 0, []⟩,
    ⟨some 17, .call (.f 214) [(.t 16), (.c (.int .i64 160))], none, 0, []⟩])
  (.seq (.reg false [0, 3] [⟨some 18, .mv (.t 0), none, 0, []⟩,
    ⟨some 19, .mp .mk, none, 0, []⟩,
    ⟨some 20, .build [.int .i64 0, .int .i64 0, .int .i64 0, .int .i64 0, .map none] [(4, 1, (.t 19))], none, 0, []⟩,
    ⟨some 21, .build [.sl none 0 0 0, .int .i64 0, .bool false, .int .i64 0, .int .i64 0, .int .i64 0, .int .i64 0, .map none] [(0, 1, (.t 18)), (3, 5, (.t 20))], none, 0, []⟩,
    ⟨some 22, .box 8 (.t 21), none, 0, []⟩,
    ⟨some 3, .mv (.t 22), none, 0, []⟩])
  (.seq (.reg false [0, 3, 4] [⟨some 23, .mv (.t 0), none, 0, []⟩,
    ⟨some 24, .slice 1 (.t 23) (some (.c (.int .i64 4))) none none, none, 0, []⟩,
    ⟨some 25, .call (.f 10) [(.t 24)], none, 0, []⟩,
    ⟨some 4, .mv (.t 25), none, 0, []⟩])
  (.seq (.reg false [0, 3, 4, 5, 6] [⟨some 27, .mv (.t 4), none, 0, []⟩,
    ⟨some 28, .call (.f 12) [(.t 27), (.c (.int .i64 8))], none, 0, []⟩,
    ⟨some 26, .mv (.t 28), none, 0, []⟩,
    ⟨some 29, .ext 0 (.t 26), none, 0, []⟩,
    ⟨some 30, .ext 1 (.t 26), none, 0, []⟩,
    ⟨some 5, .mv (.t 29), none, 0, []⟩,
    ⟨some 6, .mv (.t 30), none, 0, []⟩])
  (.seq (.reg false [0, 3, 4, 5] [⟨some 31, .mv (.t 6), none, 0, []⟩,
    ⟨some 32, .bin .neq .num (.t 31) (.c (.int .i64 0)), none, 0, []⟩,
    ⟨some 33, .call (.f 214) [(.t 32), (.c (.int .i64 163))], none, 0, []⟩])
  (.seq (.reg false [0, 3, 4, 5] [⟨some 34, .mv (.t 5), none, 0, []⟩,
    ⟨some 35, .bin .gtr .num (.t 34) (.c (.int .u64 1)), none, 0, []⟩,
    ⟨some 36, .call (.f 214) [(.t 35), (.c (.int .i64 161))], none, 0, []⟩])
  (.seq (.reg false [0, 3, 4, 5, 6, 7] [⟨some 38, .mv (.t 4), none, 0, []⟩,
    ⟨some 39, .call (.f 15) [(.t 38)], none, 0, []⟩,
    ⟨some 37, .mv (.t 39), none, 0, []⟩,
    ⟨some 40, .ext 0 (.t 37), none, 0, []⟩,
    ⟨some 41, .ext 1 (.t 37), none, 0, []⟩,
    ⟨some 7, .mv (.t 40), none, 0, []⟩,
    ⟨some 6, .mv (.t 41), none, 0, []⟩])
  (.seq (.reg false [0, 3, 4, 5, 6, 7] [⟨some 42, .mv (.t 6), none, 0, []⟩,
    ⟨some 43, .bin .eql .num (.t 42) (.c (.int .i64 14)), none, 0, []⟩,
    ⟨some 44, .call (.f 214) [(.t 43), (.c (.int .i64 163))], none, 0, []⟩])
  (.seq (.reg false [0, 3, 4, 5, 7] [⟨some 45, .mv (.t 6), none, 0, []⟩,
    ⟨some 46, .bin .neq .num (.t 45) (.c (.int .i64 0)), none, 0, []⟩,
    ⟨some 47, .mv (.t 46), none, 0, []⟩,
    ⟨some 48, .mv (.t 7), some (47, false), 0, []⟩,
    ⟨some 49, .bin .gtr .num (.t 48) (.c (.int .u64 64)), some (47, false), 0, []⟩,
    ⟨some 50, .pick (.t 47) (.c (.bool true)) (.t 49), none, 0, []⟩,
    ⟨some 51, .call (.f 214) [(.t 50), (.c (.int .i64 161))], none, 0, []⟩])
  (.seq (.reg false [3] [⟨some 52, .mv (.t 3), none, 0, []⟩,
    ⟨some 53, .mv (.t 3), none, 0, []⟩,
    ⟨some 54, .mv (.t 3), none, 0, []⟩,
    ⟨some 55, .mv (.t 0), none, 0, []⟩,
    ⟨some 56, .len none (.t 55), none, 0, []⟩,
    ⟨some 57, .mv (.t 4), none, 0, []⟩,
    ⟨some 58, .call (.f 11) [(.t 57)], none, 0, []⟩,
    ⟨some 59, .bin .quo .num (.t 58) (.c (.int .i64 8)), none, 0, []⟩,
    ⟨some 60, .bin .sub .num (.t 56) (.t 59), none, 0, []⟩,
    ⟨some 61, .mv (.t 5), none, 0, []⟩,
    ⟨some 62, .bin .eql .num (.t 61) (.c (.int .u64 1)), none, 0, []⟩,
    ⟨some 63, .mv (.t 7), none, 0, []⟩,
    ⟨some 64, .conv .i64 (.t 63), none, 0, []⟩,
    ⟨some 65, .nilck (.t 52), none, 0, []⟩,
    ⟨some 66, .fad 1 (.t 65), none, 0, []⟩,
    ⟨none, .store 1 (.t 66) (.t 60), none, 0, []⟩,
    ⟨some 67, .nilck (.t 53), none, 0, []⟩,
    ⟨some 68, .fad 2 (.t 67), none, 0, []⟩,
    ⟨none, .store 1 (.t 68) (.t 62), none, 0, []⟩,
    ⟨some 69, .nilck (.t 54), none, 0, []⟩,
    ⟨some 70, .fad 3 (.t 69), none, 0, []⟩,
    ⟨some 71, .fad 2 (.t 70), none, 0, []⟩,
    ⟨none, .store 1 (.t 71) (.t 64), none, 0, []⟩])
  (.seq (.reg false [2] [⟨some 72, .mv (.t 3), none, 0, []⟩,
    ⟨some 2, .mv (.t 72), none, 0, []⟩])
  (.ret))))))))))))⟩

/-- (*burin/file.reader).segments -/
def file_reader_segments : AFun := ⟨1, 4, true, [.t 2],
  .seq (.reg false [1] [⟨some 1, .box 1 (.t 0), none, 0, []⟩,
    ⟨some 2, .mv (.c .nilfn), none, 0, []⟩])
  (.seq (.reg false [2] [⟨some 3, .mkfn 215 [] [(.t 1)], none, 0, []⟩,
    ⟨some 2, .mv (.t 3), none, 0, []⟩])
  (.ret))⟩

/-- (*burin/file.reader).ended -/
def file_reader_ended : AFun := ⟨1, 13, true, [],
  .reg true [] [⟨some 2, .mv (.t 0), none, 0, []⟩,
    ⟨some 3, .nilck (.t 2), none, 1, []⟩,
    ⟨some 4, .fad 1 (.t 3), none, 2, []⟩,
    ⟨some 5, .load none (.t 4), none, 3, []⟩,
    ⟨some 6, .mv (.t 0), none, 4, []⟩,
    ⟨some 7, .nilck (.t 6), none, 5, []⟩,
    ⟨some 8, .fad 0 (.t 7), none, 6, []⟩,
    ⟨some 9, .load none (.t 8), none, 7, []⟩,
    ⟨some 10, .len none (.t 9), none, 8, []⟩,
    ⟨some 11, .bin .lss .num (.t 5) (.t 10), none, 9, []⟩,
    ⟨some 12, .call (.f 214) [(.t 11), (.c (.int .i64 164))], none, 10, []⟩]⟩

/-- (*burin/file.pages).take -/
def file_pages_take : AFun := ⟨2, 97, true, [],
  .seq (.reg false [0, 3] [⟨some 3, .box 7 (.t 1), none, 0, []⟩])
  (.seq (.reg false [0, 3, 4] [⟨some 4, .mv (.c (.sl none 0 0 0)), none, 0, []⟩])
  (.seq (.reg false [0, 3, 4, 5] [⟨some 5, .mv (.c (.int .i64 0)), none, 0, []⟩])
  (.seq (.seq (.reg false [0, 3, 4, 5, 12] [⟨some 11, .fad 1 (.t 3), none, 0, []⟩,
    ⟨some 12, .load none (.t 11), none, 0, []⟩])
  (.block 0 (.seq (.reg false [0, 3, 4, 5, 12, 13] [⟨some 14, .bin .eql .num (.t 12) (.c (.int .i64 1)), none, 0, []⟩,
    ⟨some 13, .mv (.t 14), none, 0, []⟩])
  (.cond (.t 13) (.seq (.reg false [0, 3, 4, 6, 7] [⟨some 16, .fad 6 (.t 3), none, 0, []⟩,
    ⟨some 17, .load none (.t 16), none, 0, []⟩,
    ⟨some 18, .call (.c .un) [(.t 17)], none, 0, []⟩,
    ⟨some 15, .mv (.t 18), none, 0, []⟩,
    ⟨some 19, .ext 0 (.t 15), none, 0, []⟩,
    ⟨some 20, .ext 1 (.t 15), none, 0, []⟩,
    ⟨some 6, .alloc [.int .i64 0, .int .i64 0, .int .i64 0, .int .i64 0], none, 0, []⟩,
    ⟨none, .store 4 (.t 6) (.t 19), none, 0, []⟩,
    ⟨some 7, .mv (.t 20), none, 0, []⟩])
  (.seq (.reg false [0, 3, 4, 6] [⟨some 21, .mv (.t 7), none, 0, []⟩,
    ⟨some 22, .call (.f 216) [(.t 21)], none, 0, []⟩])
  (.reg false [0, 3, 4, 5] [⟨some 24, .mv (.t 0), none, 0, []⟩,
    ⟨some 25, .load (some 4) (.t 6), none, 0, []⟩,
    ⟨some 26, .call (.c .un) [(.t 25)], none, 0, []⟩,
    ⟨some 23, .mv (.t 26), none, 0, []⟩,
    ⟨some 27, .ext 0 (.t 23), none, 0, []⟩,
    ⟨some 28, .ext 1 (.t 23), none, 0, []⟩,
    ⟨some 29, .nilck (.t 24), none, 0, []⟩,
    ⟨some 30, .fad 5 (.t 29), none, 0, []⟩,
    ⟨none, .store 1 (.t 30) (.t 27), none, 0, []⟩,
    ⟨some 5, .mv (.t 28), none, 0, []⟩])))
  (.seq (.reg false [0, 3, 4, 5, 12, 31] [⟨some 32, .bin .eql .num (.t 12) (.c (.int .i64 2)), none, 0, []⟩,
    ⟨some 31, .mv (.t 32), none, 0, []⟩])
  (.cond (.t 31) (.reg false [0, 3, 4, 5] [⟨some 33, .mv (.t 0), none, 0, []⟩,
    ⟨some 34, .load (some 7) (.t 3), none, 0, []⟩,
    ⟨some 35, .call (.c .un) [(.t 33), (.t 34)], none, 0, []⟩,
    ⟨some 4, .mv (.t 35), none, 0, []⟩])
  (.seq (.reg false [0, 3, 4, 5, 12, 36] [⟨some 37, .bin .eql .num (.t 12) (.c (.int .i64 3)), none, 0, []⟩,
    ⟨some 36, .mv (.t 37), none, 0, []⟩])
  (.cond (.t 36) (.reg false [0, 3, 4, 5] [⟨some 38, .mv (.t 0), none, 0, []⟩,
    ⟨some 39, .load (some 7) (.t 3), none, 0, []⟩,
    ⟨some 40, .call (.c .un) [(.t 38), (.t 39)], none, 0, []⟩])
  (.seq (.reg false [0, 3, 4, 5, 12, 41] [⟨some 42, .bin .eql .num (.t 12) (.c (.int .i64 4)), none, 0, []⟩,
    ⟨some 41, .mv (.t 42), none, 0, []⟩])
  (.cond (.t 41) (.seq (.reg false [0, 3, 4, 8, 9] [⟨some 44, .fad 6 (.t 3), none, 0, []⟩,
    ⟨some 45, .load none (.t 44), none, 0, []⟩,
    ⟨some 46, .call (.c .un) [(.t 45)], none, 0, []⟩,
    ⟨some 43, .mv (.t 46), none, 0, []⟩,
    ⟨some 47, .ext 0 (.t 43), none, 0, []⟩,
    ⟨some 48, .ext 1 (.t 43), none, 0, []⟩,
    ⟨some 8, .alloc [.int .i64 0, .int .i64 0, .int .i64 0, .int .i64 0, .bool false, .int .i64 0, .int .i64 0, .sl none 0 0 0], none, 0, []⟩,
    ⟨none, .store 8 (.t 8) (.t 47), none, 0, []⟩,
    ⟨some 9, .mv (.t 48), none, 0, []⟩])
  (.seq (.reg false [0, 3, 4, 8] [⟨some 49, .mv (.t 9), none, 0, []⟩,
    ⟨some 50, .call (.f 216) [(.t 49)], none, 0, []⟩])
  (.reg true [0, 3, 4, 5] [⟨some 51, .mv (.t 0), none, 0, []⟩,
    ⟨some 52, .nilck (.t 51), none, 1, []⟩,
    ⟨some 53, .fad 5 (.t 52), none, 2, []⟩,
    ⟨some 54, .load none (.t 53), none, 3, []⟩,
    ⟨some 55, .fad 0 (.t 8), none, 4, []⟩,
    ⟨some 56, .load none (.t 55), none, 5, []⟩,
    ⟨some 57, .fad 1 (.t 8), none, 6, []⟩,
    ⟨some 58, .load none (.t 57), none, 7, []⟩,
    ⟨some 59, .fad 2 (.t 8), none, 8, []⟩,
    ⟨some 60, .load none (.t 59), none, 9, []⟩,
    ⟨some 61, .fad 5 (.t 8), none, 10, []⟩,
    ⟨some 62, .load (some 3) (.t 61), none, 11, []⟩,
    ⟨some 63, .call (.c .un) [(.t 54), (.t 56), (.t 58), (.t 60), (.t 62)], none, 12, []⟩,
    ⟨some 5, .mv (.t 63), none, 13, []⟩])))
  (.seq (.reg false [0, 3, 4, 5, 12, 64] [⟨some 65, .bin .eql .num (.t 12) (.c (.int .i64 5)), none, 0, []⟩,
    ⟨some 64, .mv (.t 65), none, 0, []⟩])
  (.cond (.t 64) (.reg false [0, 3, 4, 5] [⟨some 66, .mv (.t 0), none, 0, []⟩,
    ⟨some 67, .load (some 7) (.t 3), none, 0, []⟩,
    ⟨some 68, .call (.c .un) [(.t 66), (.t 67)], none, 0, []⟩])
  (.seq (.reg false [0, 3, 4, 5, 69] [⟨some 70, .bin .eql .num (.t 12) (.c (.int .i64 6)), none, 0, []⟩,
    ⟨some 69, .mv (.t 70), none, 0, []⟩])
  (.cond (.t 69) (.seq (.reg false [0, 3, 4, 10] [⟨some 10, .alloc [.int .i64 0, .int .i64 0, .sl none 0 0 0], none, 0, []⟩])
  (.seq (.reg false [0, 3, 4, 5, 10] [⟨some 72, .mv (.t 0), none, 0, []⟩,
    ⟨some 73, .nilck (.t 72), none, 0, []⟩,
    ⟨some 74, .fad 5 (.t 73), none, 0, []⟩,
    ⟨some 75, .load none (.t 74), none, 0, []⟩,
    ⟨some 76, .call (.c .un) [(.t 75)], none, 0, []⟩,
    ⟨some 71, .mv (.t 76), none, 0, []⟩,
    ⟨some 77, .ext 0 (.t 71), none, 0, []⟩,
    ⟨some 78, .ext 1 (.t 71), none, 0, []⟩,
    ⟨none, .store 3 (.t 10) (.t 77), none, 0, []⟩,
    ⟨some 5, .mv (.t 78), none, 0, []⟩])
  (.reg true [0, 3, 4, 5] [⟨some 79, .mv (.t 0), none, 0, []⟩,
    ⟨some 80, .mv (.t 0), none, 1, []⟩,
    ⟨some 81, .nilck (.t 80), none, 2, []⟩,
    ⟨some 82, .fad 6 (.t 81), none, 3, []⟩,
    ⟨some 83, .load none (.t 82), none, 4, []⟩,
    ⟨some 84, .load (some 3) (.t 10), none, 5, []⟩,
    ⟨some 85, .bslice 3 [.int .i64 0, .int .i64 0, .sl none 0 0 0] 1 [(0, (.t 84))], none, 6, []⟩,
    ⟨some 86, .append 3 40 (.t 83) (.t 85), none, 7, []⟩,
    ⟨some 87, .nilck (.t 79), none, 8, []⟩,
    ⟨some 88, .fad 6 (.t 87), none, 9, []⟩,
    ⟨none, .store 1 (.t 88) (.t 86), none, 10, []⟩])))
  (.skip)))))))))))))))
  (.seq (.reg false [0, 3, 4] [⟨some 89, .mv (.t 5), none, 0, []⟩,
    ⟨some 90, .call (.f 216) [(.t 89)], none, 0, []⟩])
  (.reg true [] [⟨some 91, .mv (.t 0), none, 0, []⟩,
    ⟨some 92, .nilck (.t 91), none, 1, []⟩,
    ⟨some 93, .fad 0 (.t 92), none, 2, []⟩,
    ⟨some 94, .load (some 7) (.t 3), none, 3, []⟩,
    ⟨some 95, .mv (.t 4), none, 4, []⟩,
    ⟨some 96, .call (.f 205) [(.t 93), (.t 94), (.t 95)], none, 5, []⟩])))))⟩

/-- slices.Sort[[]int,int] -/
def slices_Sort_int_int : AFun := ⟨1, 11, true, [],
  .seq (.reg false [0, 2] [⟨some 3, .mv (.t 0), none, 0, []⟩,
    ⟨some 4, .len none (.t 3), none, 0, []⟩,
    ⟨some 2, .mv (.t 4), none, 0, []⟩])
  (.reg false [] [⟨some 5, .mv (.t 0), none, 0, []⟩,
    ⟨some 6, .mv (.t 2), none, 0, []⟩,
    ⟨some 7, .mv (.t 2), none, 0, []⟩,
    ⟨some 8, .conv .u64 (.t 7), none, 0, []⟩,
    ⟨some 9, .call (.f 217) [(.t 8)], none, 0, []⟩,
    ⟨some 10, .call (.f 218) [(.t 5), (.c (.int .i64 0)), (.t 6), (.t 9)], none, 0, []⟩])⟩

/-- burin/file.wrong -/
def file_wrong : AFun := ⟨2, 8, true, [],
  .seq (.reg false [1, 4] [⟨some 4, .mv (.t 0), none, 0, []⟩])
  (.cond (.t 4) (.reg false [] [⟨some 5, .mv (.t 1), none, 0, []⟩,
    ⟨some 6, .build [.int .i64 0] [(0, 1, (.t 5))], none, 0, []⟩,
    ⟨some 7, .mkifc 1 (.t 6), none, 0, []⟩,
    ⟨none, .pan (.t 7), none, 0, []⟩])
  (.skip))⟩

def file_reader_segments_1_l1 : Cd := .seq (.reg false [0, 1, 13, 14, 15, 16] [⟨some 16, .bin .lss .num (.t 15) (.t 14), none, 0, []⟩])
  (.seq (.cond (.t 16) (.skip)
  (.exit 0))
  (.seq (.block 1 (.seq (.reg false [0, 1, 4, 13, 14, 15] [⟨some 17, .iad none 8 (.t 13) (.t 15), none, 0, []⟩,
    ⟨some 18, .load (some 8) (.t 17), none, 0, []⟩,
    ⟨some 4, .alloc [.int .i64 0, .int .i64 0, .int .i64 0, .sl none 0 0 0, .sl none 0 0 0, .bool false, .sl none 0 0 0, .int .i64 0], none, 0, []⟩,
    ⟨none, .store 8 (.t 4) (.t 18), none, 0, []⟩])
  (.seq (.reg false [0, 1, 4, 13, 14, 15] [⟨some 19, .load none (.t 1), none, 0, []⟩,
    ⟨some 20, .fad 7 (.t 4), none, 0, []⟩,
    ⟨some 21, .load none (.t 20), none, 0, []⟩,
    ⟨some 22, .call (.f 219) [(.t 19), (.t 21)], none, 0, []⟩,
    ⟨some 23, .fad 0 (.t 4), none, 0, []⟩,
    ⟨some 24, .fad 6 (.t 23), none, 0, []⟩,
    ⟨none, .store 1 (.t 24) (.t 22), none, 0, []⟩])
  (.seq (.reg false [0, 1, 13, 14, 15, 29] [⟨some 25, .mv (.t 0), none, 0, []⟩,
    ⟨some 26, .fad 0 (.t 4), none, 0, []⟩,
    ⟨some 27, .load (some 7) (.t 26), none, 0, []⟩,
    ⟨some 28, .yc (.t 25) [(.t 27)], none, 0, []⟩,
    ⟨some 29, .un .not (.t 28), none, 0, []⟩])
  (.cond (.t 29) (.ret)
  (.skip))))))
  (.reg false [0, 1, 13, 14, 15] [⟨some 30, .bin .add .num (.t 15) (.c (.int .i64 1)), none, 0, []⟩,
    ⟨some 15, .mv (.t 30), none, 0, []⟩])))
def file_reader_segments_1_l0 : Cd := .seq (.seq (.reg false [0, 1, 31] [⟨some 31, .mv (.t 5), none, 0, []⟩])
  (.cond (.t 31) (.skip)
  (.exit 2)))
  (.block 3 (.seq (.reg false [0, 1, 6, 7] [⟨some 33, .load none (.t 1), none, 0, []⟩,
    ⟨some 34, .call (.f 220) [(.t 33)], none, 0, []⟩,
    ⟨some 32, .mv (.t 34), none, 0, []⟩,
    ⟨some 35, .ext 0 (.t 32), none, 0, []⟩,
    ⟨some 36, .ext 1 (.t 32), none, 0, []⟩,
    ⟨some 6, .alloc [.int .i64 0, .int .i64 0, .int .i64 0, .sl none 0 0 0, .sl none 0 0 0, .bool false, .sl none 0 0 0], none, 0, []⟩,
    ⟨none, .store 7 (.t 6) (.t 35), none, 0, []⟩,
    ⟨some 7, .mv (.t 36), none, 0, []⟩])
  (.seq (.reg false [0, 1, 6] [⟨some 37, .load none (.t 1), none, 0, []⟩,
    ⟨some 38, .mv (.t 7), none, 0, []⟩,
    ⟨some 39, .call (.f 219) [(.t 37), (.t 38)], none, 0, []⟩,
    ⟨some 40, .fad 6 (.t 6), none, 0, []⟩,
    ⟨none, .store 1 (.t 40) (.t 39), none, 0, []⟩])
  (.reg false [0, 1, 5] [⟨some 41, .mv (.t 0), none, 0, []⟩,
    ⟨some 42, .load (some 7) (.t 6), none, 0, []⟩,
    ⟨some 43, .yc (.t 41) [(.t 42)], none, 0, []⟩,
    ⟨some 44, .mv (.t 43), none, 0, []⟩,
    ⟨some 45, .fad 1 (.t 6), some (44, true), 0, []⟩,
    ⟨some 46, .load none (.t 45), some (44, true), 0, []⟩,
    ⟨some 47, .bin .neq .num (.t 46) (.c (.int .i64 7)), some (44, true), 0, []⟩,
    ⟨some 48, .pick (.t 44) (.t 47) (.c (.bool false)), none, 0, []⟩,
    ⟨some 5, .mv (.t 48), none, 0, []⟩]))))
/-- (*burin/file.reader).segments$1 -/
def file_reader_segments_1 : AFun := ⟨2, 49, true, [],
  .seq (.seq (.reg false [0, 1, 11] [⟨some 8, .load none (.t 1), none, 0, []⟩,
    ⟨some 9, .nilck (.t 8), none, 0, []⟩,
    ⟨some 10, .fad 2 (.t 9), none, 0, []⟩,
    ⟨some 11, .load none (.t 10), none, 0, []⟩])
  (.cond (.t 11) (.seq (.seq (.reg false [0, 1, 13, 14, 15] [⟨some 12, .load none (.t 1), none, 0, []⟩,
    ⟨some 13, .call (.f 221) [(.t 12)], none, 0, []⟩,
    ⟨some 14, .len none (.t 13), none, 0, []⟩,
    ⟨some 15, .mv (.c (.int .i64 0)), none, 0, []⟩])
  (.block 0 (.loop [0, 1, 13, 14, 15] file_reader_segments_1_l1)))
  (.ret))
  (.skip)))
  (.seq (.reg false [0, 1, 5] [⟨some 5, .mv (.c (.bool true)), none, 0, []⟩])
  (.block 2 (.loop [0, 1, 5] file_reader_segments_1_l0)))⟩

/-- burin/file.need -/
def file_need : AFun := ⟨1, 6, true, [],
  .reg false [] [⟨some 2, .mv (.t 0), none, 0, []⟩,
    ⟨some 3, .bin .neq .num (.t 2) (.c (.int .i64 0)), none, 0, []⟩,
    ⟨some 4, .mv (.t 0), none, 0, []⟩,
    ⟨some 5, .call (.f 214) [(.t 3), (.t 4)], none, 0, []⟩]⟩

def slices_pdqsortOrdered_int_l0 : Cd := .block 1 (.seq (.reg false [0, 1, 2, 3, 8, 9, 10] [⟨some 19, .mv (.t 2), none, 0, []⟩,
    ⟨some 20, .mv (.t 1), none, 0, []⟩,
    ⟨some 21, .bin .sub .num (.t 19) (.t 20), none, 0, []⟩,
    ⟨some 10, .mv (.t 21), none, 0, []⟩])
  (.seq (.seq (.reg false [0, 1, 2, 3, 8, 9, 10, 23] [⟨some 22, .mv (.t 10), none, 0, []⟩,
    ⟨some 23, .bin .leq .num (.t 22) (.c (.int .i64 12)), none, 0, []⟩])
  (.cond (.t 23) (.seq (.reg false [] [⟨some 24, .mv (.t 0), none, 0, []⟩,
    ⟨some 25, .mv (.t 1), none, 0, []⟩,
    ⟨some 26, .mv (.t 2), none, 0, []⟩,
    ⟨some 27, .call (.f 223) [(.t 24), (.t 25), (.t 26)], none, 0, []⟩])
  (.ret))
  (.skip)))
  (.seq (.seq (.reg false [0, 1, 2, 3, 8, 9, 10, 29] [⟨some 28, .mv (.t 3), none, 0, []⟩,
    ⟨some 29, .bin .eql .num (.t 28) (.c (.int .i64 0)), none, 0, []⟩])
  (.cond (.t 29) (.seq (.reg false [] [⟨some 30, .mv (.t 0), none, 0, []⟩,
    ⟨some 31, .mv (.t 1), none, 0, []⟩,
    ⟨some 32, .mv (.t 2), none, 0, []⟩,
    ⟨some 33, .call (.c .un) [(.t 30), (.t 31), (.t 32)], none, 0, []⟩])
  (.ret))
  (.skip)))
  (.seq (.seq (.reg false [0, 1, 2, 3, 8, 9, 10, 35] [⟨some 34, .mv (.t 8), none, 0, []⟩,
    ⟨some 35, .un .not (.t 34), none, 0, []⟩])
  (.cond (.t 35) (.seq (.reg false [0, 1, 2, 3, 8, 9, 10] [⟨some 36, .mv (.t 0), none, 0, []⟩,
    ⟨some 37, .mv (.t 1), none, 0, []⟩,
    ⟨some 38, .mv (.t 2), none, 0, []⟩,
    ⟨some 39, .call (.c .un) [(.t 36), (.t 37), (.t 38)], none, 0, []⟩])
  (.reg false [0, 1, 2, 3, 8, 9, 10] [⟨some 40, .mv (.t 3), none, 0, []⟩,
    ⟨some 41, .bin .sub .num (.t 40) (.c (.int .i64 1)), none, 0, []⟩,
    ⟨some 3, .mv (.t 41), none, 0, []⟩]))
  (.skip)))
  (.seq (.reg false [0, 1, 2, 3, 8, 9, 10, 11, 12] [⟨some 43, .mv (.t 0), none, 0, []⟩,
    ⟨some 44, .mv (.t 1), none, 0, []⟩,
    ⟨some 45, .mv (.t 2), none, 0, []⟩,
    ⟨some 46, .call (.c .un) [(.t 43), (.t 44), (.t 45)], none, 0, []⟩,
    ⟨some 42, .mv (.t 46), none, 0, []⟩,
    ⟨some 47, .ext 0 (.t 42), none, 0, []⟩,
    ⟨some 48, .ext 1 (.t 42), none, 0, []⟩,
    ⟨some 11, .mv (.t 47), none, 0, []⟩,
    ⟨some 12, .mv (.t 48), none, 0, []⟩])
  (.seq (.seq (.reg false [0, 1, 2, 3, 8, 9, 10, 11, 12, 50] [⟨some 49, .mv (.t 12), none, 0, []⟩,
    ⟨some 50, .bin .eql .num (.t 49) (.c (.int .i64 2)), none, 0, []⟩])
  (.cond (.t 50) (.seq (.reg false [0, 1, 2, 3, 8, 9, 10, 11] [⟨some 51, .mv (.t 0), none, 0, []⟩,
    ⟨some 52, .mv (.t 1), none, 0, []⟩,
    ⟨some 53, .mv (.t 2), none, 0, []⟩,
    ⟨some 54, .call (.c .un) [(.t 51), (.t 52), (.t 53)], none, 0, []⟩])
  (.seq (.reg false [0, 1, 2, 3, 8, 9, 10, 11] [⟨some 55, .mv (.t 2), none, 0, []⟩,
    ⟨some 56, .bin .sub .num (.t 55) (.c (.int .i64 1)), none, 0, []⟩,
    ⟨some 57, .mv (.t 11), none, 0, []⟩,
    ⟨some 58, .mv (.t 1), none, 0, []⟩,
    ⟨some 59, .bin .sub .num (.t 57) (.t 58), none, 0, []⟩,
    ⟨some 60, .bin .sub .num (.t 56) (.t 59), none, 0, []⟩,
    ⟨some 11, .mv (.t 60), none, 0, []⟩])
  (.reg false [0, 1, 2, 3, 8, 9, 10, 11, 12] [⟨some 12, .mv (.c (.int .i64 1)), none, 0, []⟩])))
  (.skip)))
  (.seq (.seq (.reg false [0, 1, 2, 3, 8, 9, 10, 11, 68] [⟨some 61, .mv (.t 8), none, 0, []⟩,
    ⟨some 62, .mv (.t 61), none, 0, []⟩,
    ⟨some 63, .mv (.t 9), some (62, true), 0, []⟩,
    ⟨some 64, .pick (.t 62) (.t 63) (.c (.bool false)), none, 0, []⟩,
    ⟨some 65, .mv (.t 64), none, 0, []⟩,
    ⟨some 66, .mv (.t 12), some (65, true), 0, []⟩,
    ⟨some 67, .bin .eql .num (.t 66) (.c (.int .i64 1)), some (65, true), 0, []⟩,
    ⟨some 68, .pick (.t 65) (.t 67) (.c (.bool false)), none, 0, []⟩])
  (.cond (.t 68) (.seq (.reg false [0, 1, 2, 3, 8, 9, 10, 11, 72] [⟨some 69, .mv (.t 0), none, 0, []⟩,
    ⟨some 70, .mv (.t 1), none, 0, []⟩,
    ⟨some 71, .mv (.t 2), none, 0, []⟩,
    ⟨some 72, .call (.c .un) [(.t 69), (.t 70), (.t 71)], none, 0, []⟩])
  (.cond (.t 72) (.ret)
  (.skip)))
  (.skip)))
  (.seq (.seq (.reg true [0, 1, 2, 3, 8, 9, 10, 11, 87] [⟨some 73, .mv (.t 1), none, 0, []⟩,
    ⟨some 74, .bin .gtr .num (.t 73) (.c (.int .i64 0)), none, 1, []⟩,
    ⟨some 75, .mv (.t 74), none, 2, []⟩,
    ⟨some 76, .mv (.t 0), some (75, true), 3, []⟩,
    ⟨some 77, .mv (.t 1), some (75, true), 4, []⟩,
    ⟨some 78, .bin .sub .num (.t 77) (.c (.int .i64 1)), some (75, true), 5, []⟩,
    ⟨some 79, .iad none 1 (.t 76) (.t 78), some (75, true), 6, []⟩,
    ⟨some 80, .load none (.t 79), some (75, true), 7, []⟩,
    ⟨some 81, .mv (.t 0), some (75, true), 8, []⟩,
    ⟨some 82, .mv (.t 11), some (75, true), 9, []⟩,
    ⟨some 83, .iad none 1 (.t 81) (.t 82), some (75, true), 10, []⟩,
    ⟨some 84, .load none (.t 83), some (75, true), 11, []⟩,
    ⟨some 85, .call (.f 222) [(.t 80), (.t 84)], some (75, true), 12, []⟩,
    ⟨some 86, .un .not (.t 85), some (75, true), 13, []⟩,
    ⟨some 87, .pick (.t 75) (.t 86) (.c (.bool false)), none, 14, []⟩])
  (.cond (.t 87) (.seq (.reg false [0, 2, 3, 8, 9, 13] [⟨some 88, .mv (.t 0), none, 0, []⟩,
    ⟨some 89, .mv (.t 1), none, 0, []⟩,
    ⟨some 90, .mv (.t 2), none, 0, []⟩,
    ⟨some 91, .mv (.t 11), none, 0, []⟩,
    ⟨some 92, .call (.c .un) [(.t 88), (.t 89), (.t 90), (.t 91)], none, 0, []⟩,
    ⟨some 13, .mv (.t 92), none, 0, []⟩])
  (.seq (.reg false [0, 1, 2, 3, 8, 9] [⟨some 93, .mv (.t 13), none, 0, []⟩,
    ⟨some 1, .mv (.t 93), none, 0, []⟩])
  (.exit 1)))
  (.skip)))
  (.seq (.reg false [0, 1, 2, 3, 10, 14, 15] [⟨some 95, .mv (.t 0), none, 0, []⟩,
    ⟨some 96, .mv (.t 1), none, 0, []⟩,
    ⟨some 97, .mv (.t 2), none, 0, []⟩,
    ⟨some 98, .mv (.t 11), none, 0, []⟩,
    ⟨some 99, .call (.c .un) [(.t 95), (.t 96), (.t 97), (.t 98)], none, 0, []⟩,
    ⟨some 94, .mv (.t 99), none, 0, []⟩,
    ⟨some 100, .ext 0 (.t 94), none, 0, []⟩,
    ⟨some 101, .ext 1 (.t 94), none, 0, []⟩,
    ⟨some 14, .mv (.t 100), none, 0, []⟩,
    ⟨some 15, .mv (.t 101), none, 0, []⟩])
  (.seq (.reg false [0, 1, 2, 3, 9, 10, 14] [⟨some 102, .mv (.t 15), none, 0, []⟩,
    ⟨some 9, .mv (.t 102), none, 0, []⟩])
  (.seq (.reg false [0, 1, 2, 3, 9, 10, 14, 16, 17] [⟨some 103, .mv (.t 14), none, 0, []⟩,
    ⟨some 104, .mv (.t 1), none, 0, []⟩,
    ⟨some 105, .bin .sub .num (.t 103) (.t 104), none, 0, []⟩,
    ⟨some 106, .mv (.t 2), none, 0, []⟩,
    ⟨some 107, .mv (.t 14), none, 0, []⟩,
    ⟨some 108, .bin .sub .num (.t 106) (.t 107), none, 0, []⟩,
    ⟨some 16, .mv (.t 105), none, 0, []⟩,
    ⟨some 17, .mv (.t 108), none, 0, []⟩])
  (.seq (.reg false [0, 1, 2, 3, 9, 14, 16, 17, 18] [⟨some 109, .mv (.t 10), none, 0, []⟩,
    ⟨some 110, .bin .quo .num (.t 109) (.c (.int .i64 8)), none, 0, []⟩,
    ⟨some 18, .mv (.t 110), none, 0, []⟩])
  (.seq (.reg false [0, 1, 2, 3, 9, 14, 16, 17, 18, 113] [⟨some 111, .mv (.t 16), none, 0, []⟩,
    ⟨some 112, .mv (.t 17), none, 0, []⟩,
    ⟨some 113, .bin .lss .num (.t 111) (.t 112), none, 0, []⟩])
  (.cond (.t 113) (.seq (.reg false [0, 1, 2, 3, 8, 9, 14] [⟨some 114, .mv (.t 16), none, 0, []⟩,
    ⟨some 115, .mv (.t 18), none, 0, []⟩,
    ⟨some 116, .bin .geq .num (.t 114) (.t 115), none, 0, []⟩,
    ⟨some 8, .mv (.t 116), none, 0, []⟩])
  (.seq (.reg false [0, 2, 3, 8, 9, 14] [⟨some 117, .mv (.t 0), none, 0, []⟩,
    ⟨some 118, .mv (.t 1), none, 0, []⟩,
    ⟨some 119, .mv (.t 14), none, 0, []⟩,
    ⟨some 120, .mv (.t 3), none, 0, []⟩,
    ⟨some 121, .call (.f 218) [(.t 117), (.t 118), (.t 119), (.t 120)], none, 0, []⟩])
  (.reg false [0, 1, 2, 3, 8, 9] [⟨some 122, .mv (.t 14), none, 0, []⟩,
    ⟨some 123, .bin .add .num (.t 122) (.c (.int .i64 1)), none, 0, []⟩,
    ⟨some 1, .mv (.t 123), none, 0, []⟩])))
  (.seq (.reg false [0, 1, 2, 3, 8, 9, 14] [⟨some 124, .mv (.t 17), none, 0, []⟩,
    ⟨some 125, .mv (.t 18), none, 0, []⟩,
    ⟨some 126, .bin .geq .num (.t 124) (.t 125), none, 0, []⟩,
    ⟨some 8, .mv (.t 126), none, 0, []⟩])
  (.seq (.reg false [0, 1, 3, 8, 9, 14] [⟨some 127, .mv (.t 0), none, 0, []⟩,
    ⟨some 128, .mv (.t 14), none, 0, []⟩,
    ⟨some 129, .bin .add .num (.t 128) (.c (.int .i64 1)), none, 0, []⟩,
    ⟨some 130, .mv (.t 2), none, 0, []⟩,
    ⟨some 131, .mv (.t 3), none, 0, []⟩,
    ⟨some 132, .call (.f 218) [(.t 127), (.t 129), (.t 130), (.t 131)], none, 0, []⟩])
  (.reg false [0, 1, 2, 3, 8, 9] [⟨some 133, .mv (.t 14), none, 0, []⟩,
    ⟨some 2, .mv (.t 133), none, 0, []⟩])))))))))))))))))
/-- slices.pdqsortOrdered[int] -/
def slices_pdqsortOrdered_int : AFun := ⟨4, 134, true, [],
  .seq (.reg false [0, 1, 2, 3, 8] [⟨some 8, .mv (.c (.bool true)), none, 0, []⟩])
  (.seq (.reg false [0, 1, 2, 3, 8, 9] [⟨some 9, .mv (.c (.bool true)), none, 0, []⟩])
  (.block 0 (.loop [0, 1, 2, 3, 8, 9] slices_pdqsortOrdered_int_l0)))⟩

/-- math/bits.Len -/
def math_bits_Len : AFun := ⟨1, 8, true, [.t 2],
  .seq (.reg false [0] [⟨some 2, .mv (.c (.int .i64 0)), none, 0, []⟩])
  (.seq (.cond (.c (.bool false)) (.seq (.reg false [2] [⟨some 3, .mv (.t 0), none, 0, []⟩,
    ⟨some 4, .conv .u32 (.t 3), none, 0, []⟩,
    ⟨some 5, .call (.f 224) [(.t 4)], none, 0, []⟩,
    ⟨some 2, .mv (.t 5), none, 0, []⟩])
  (.ret))
  (.skip))
  (.seq (.reg false [2] [⟨some 6, .mv (.t 0), none, 0, []⟩,
    ⟨some 7, .call (.f 112) [(.t 6)], none, 0, []⟩,
    ⟨some 2, .mv (.t 7), none, 0, []⟩])
  (.ret)))⟩

def file_reader_headers_l0 : Cd := .block 1 (.seq (.reg false [0, 3, 4, 5] [⟨some 7, .mv (.t 0), none, 0, []⟩,
    ⟨some 8, .call (.f 220) [(.t 7)], none, 0, []⟩,
    ⟨some 6, .mv (.t 8), none, 0, []⟩,
    ⟨some 9, .ext 0 (.t 6), none, 0, []⟩,
    ⟨some 10, .ext 1 (.t 6), none, 0, []⟩,
    ⟨some 4, .alloc [.int .i64 0, .int .i64 0, .int .i64 0, .sl none 0 0 0, .sl none 0 0 0, .bool false, .sl none 0 0 0], none, 0, []⟩,
    ⟨none, .store 7 (.t 4) (.t 9), none, 0, []⟩,
    ⟨some 5, .mv (.t 10), none, 0, []⟩])
  (.seq (.reg false [0, 3, 4] [⟨some 11, .mv (.t 3), none, 0, []⟩,
    ⟨some 12, .load (some 7) (.t 4), none, 0, []⟩,
    ⟨some 13, .mv (.t 5), none, 0, []⟩,
    ⟨some 14, .build [.int .i64 0, .int .i64 0, .int .i64 0, .sl none 0 0 0, .sl none 0 0 0, .bool false, .sl none 0 0 0, .int .i64 0] [(0, 7, (.t 12)), (7, 1, (.t 13))], none, 0, []⟩,
    ⟨some 15, .bslice 8 [.int .i64 0, .int .i64 0, .int .i64 0, .sl none 0 0 0, .sl none 0 0 0, .bool false, .sl none 0 0 0, .int .i64 0] 1 [(0, (.t 14))], none, 0, []⟩,
    ⟨some 16, .append 8 112 (.t 11) (.t 15), none, 0, []⟩,
    ⟨some 3, .mv (.t 16), none, 0, []⟩])
  (.seq (.reg false [0, 3, 19] [⟨some 17, .fad 1 (.t 4), none, 0, []⟩,
    ⟨some 18, .load none (.t 17), none, 0, []⟩,
    ⟨some 19, .bin .eql .num (.t 18) (.c (.int .i64 7)), none, 0, []⟩])
  (.cond (.t 19) (.seq (.reg false [2] [⟨some 20, .mv (.t 3), none, 0, []⟩,
    ⟨some 2, .mv (.t 20), none, 0, []⟩])
  (.ret))
  (.skip)))))
/-- (*burin/file.reader).headers -/
def file_reader_headers : AFun := ⟨1, 21, true, [.t 2],
  .seq (.reg false [0] [⟨some 2, .mv (.c (.sl none 0 0 0)), none, 0, []⟩])
  (.seq (.reg false [0, 3] [⟨some 3, .mv (.c (.sl none 0 0 0)), none, 0, []⟩])
  (.block 0 (.loop [0, 3] file_reader_headers_l0)))⟩

/-- (*burin/file.reader).data -/
def file_reader_data : AFun := ⟨2, 42, true, [.t 4],
  .seq (.reg false [0, 1] [⟨some 4, .mv (.c (.sl none 0 0 0)), none, 0, []⟩])
  (.seq (.reg true [0, 1] [⟨some 5, .mv (.t 1), none, 0, []⟩,
    ⟨some 6, .mv (.t 0), none, 1, []⟩,
    ⟨some 7, .nilck (.t 6), none, 2, []⟩,
    ⟨some 8, .fad 0 (.t 7), none, 3, []⟩,
    ⟨some 9, .load none (.t 8), none, 4, []⟩,
    ⟨some 10, .len none (.t 9), none, 5, []⟩,
    ⟨some 11, .mv (.t 0), none, 6, []⟩,
    ⟨some 12, .nilck (.t 11), none, 7, []⟩,
    ⟨some 13, .fad 1 (.t 12), none, 8, []⟩,
    ⟨some 14, .load none (.t 13), none, 9, []⟩,
    ⟨some 15, .bin .sub .num (.t 10) (.t 14), none, 10, []⟩,
    ⟨some 16, .bin .gtr .num (.t 5) (.t 15), none, 11, []⟩,
    ⟨some 17, .call (.f 214) [(.t 16), (.c (.int .i64 163))], none, 12, []⟩])
  (.seq (.reg false [0, 1] [⟨some 18, .mv (.t 0), none, 0, []⟩,
    ⟨some 19, .nilck (.t 18), none, 0, []⟩,
    ⟨some 20, .fad 1 (.t 19), none, 0, []⟩,
    ⟨some 21, .load none (.t 20), none, 0, []⟩,
    ⟨some 22, .mv (.t 1), none, 0, []⟩,
    ⟨some 23, .bin .add .num (.t 21) (.t 22), none, 0, []⟩,
    ⟨some 24, .nilck (.t 18), none, 0, []⟩,
    ⟨some 25, .fad 1 (.t 24), none, 0, []⟩,
    ⟨none, .store 1 (.t 25) (.t 23), none, 0, []⟩])
  (.seq (.reg true [4] [⟨some 26, .mv (.t 0), none, 0, []⟩,
    ⟨some 27, .nilck (.t 26), none, 1, []⟩,
    ⟨some 28, .fad 0 (.t 27), none, 2, []⟩,
    ⟨some 29, .load none (.t 28), none, 3, []⟩,
    ⟨some 30, .mv (.t 0), none, 4, []⟩,
    ⟨some 31, .nilck (.t 30), none, 5, []⟩,
    ⟨some 32, .fad 1 (.t 31), none, 6, []⟩,
    ⟨some 33, .load none (.t 32), none, 7, []⟩,
    ⟨some 34, .mv (.t 1), none, 8, []⟩,
    ⟨some 35, .bin .sub .num (.t 33) (.t 34), none, 9, []⟩,
    ⟨some 36, .mv (.t 0), none, 10, []⟩,
    ⟨some 37, .nilck (.t 36), none, 11, []⟩,
    ⟨some 38, .fad 1 (.t 37), none, 12, []⟩,
    ⟨some 39, .load none (.t 38), none, 13, []⟩,
    ⟨some 40, .slice 1 (.t 29) (some (.t 35)) (some (.t 39)) none, none, 14, []⟩,
    ⟨some 41, .call (.f 225) [(.t 40)], none, 15, []⟩,
    ⟨some 4, .mv (.t 41), none, 16, []⟩])
  (.ret))))⟩

/-- (*burin/file.reader).header -/
def file_reader_header : AFun := ⟨1, 36, true, [.cell 2 (some 7), .t 3],
  .seq (.reg false [0, 2] [⟨some 2, .alloc [.int .i64 0, .int .i64 0, .int .i64 0, .sl none 0 0 0, .sl none 0 0 0, .bool false, .sl none 0 0 0], none, 0, []⟩,
    ⟨some 3, .mv (.c (.int .i64 0)), none, 0, []⟩])
  (.seq (.reg true [0, 2, 4, 5, 6, 7] [⟨some 9, .mv (.t 0), none, 0, []⟩,
    ⟨some 10, .nilck (.t 9), none, 1, []⟩,
    ⟨some 11, .fad 0 (.t 10), none, 2, []⟩,
    ⟨some 12, .load none (.t 11), none, 3, []⟩,
    ⟨some 13, .mv (.t 0), none, 4, []⟩,
    ⟨some 14, .nilck (.t 13), none, 5, []⟩,
    ⟨some 15, .fad 1 (.t 14), none, 6, []⟩,
    ⟨some 16, .load none (.t 15), none, 7, []⟩,
    ⟨some 4, .alloc [.int .i64 0, .int .i64 0, .int .i64 0, .sl none 0 0 0, .sl none 0 0 0, .bool false, .sl none 0 0 0], none, 14, []⟩,
    ⟨some 17, .call (.f 163) [(.t 12), (.t 16)], none, 8, [14]⟩,
    ⟨some 8, .mv (.t 17), none, 9, []⟩,
    ⟨some 18, .ext 0 (.t 8), none, 10, []⟩,
    ⟨some 19, .ext 1 (.t 8), none, 11, []⟩,
    ⟨some 20, .ext 2 (.t 8), none, 12, []⟩,
    ⟨some 21, .ext 3 (.t 8), none, 13, []⟩,
    ⟨none, .store 7 (.t 4) (.t 18), none, 15, []⟩,
    ⟨some 5, .mv (.t 19), none, 16, []⟩,
    ⟨some 6, .mv (.t 20), none, 17, []⟩,
    ⟨some 7, .mv (.t 21), none, 18, []⟩])
  (.seq (.reg false [0, 2, 4, 5, 6] [⟨some 22, .mv (.t 7), none, 0, []⟩,
    ⟨some 23, .call (.f 216) [(.t 22)], none, 0, []⟩])
  (.seq (.reg true [0, 2, 4, 5, 6] [⟨some 24, .mv (.t 0), none, 0, []⟩,
    ⟨some 25, .nilck (.t 24), none, 1, []⟩,
    ⟨some 26, .fad 3 (.t 25), none, 2, []⟩,
    ⟨some 27, .load (some 7) (.t 4), none, 3, []⟩,
    ⟨some 28, .call (.f 202) [(.t 26), (.t 27)], none, 4, []⟩,
    ⟨some 29, .call (.f 216) [(.t 28)], none, 5, []⟩])
  (.seq (.reg false [2, 4, 5] [⟨some 30, .mv (.t 0), none, 0, []⟩,
    ⟨some 31, .mv (.t 6), none, 0, []⟩,
    ⟨some 32, .nilck (.t 30), none, 0, []⟩,
    ⟨some 33, .fad 1 (.t 32), none, 0, []⟩,
    ⟨none, .store 1 (.t 33) (.t 31), none, 0, []⟩])
  (.seq (.reg false [2, 3] [⟨some 34, .load (some 7) (.t 4), none, 0, []⟩,
    ⟨some 35, .mv (.t 5), none, 0, []⟩,
    ⟨none, .store 7 (.t 2) (.t 34), none, 0, []⟩,
    ⟨some 3, .mv (.t 35), none, 0, []⟩])
  (.ret))))))⟩

def slices_insertionSortOrdered_int_l1 : Cd := .seq (.seq (.reg true [0, 1, 2, 6, 7, 30] [⟨some 16, .mv (.t 7), none, 0, []⟩,
    ⟨some 17, .mv (.t 1), none, 1, []⟩,
    ⟨some 18, .bin .gtr .num (.t 16) (.t 17), none, 2, []⟩,
    ⟨some 19, .mv (.t 18), none, 3, []⟩,
    ⟨some 20, .mv (.t 0), some (19, true), 4, []⟩,
    ⟨some 21, .mv (.t 7), some (19, true), 5, []⟩,
    ⟨some 22, .iad none 1 (.t 20) (.t 21), some (19, true), 6, []⟩,
    ⟨some 23, .load none (.t 22), some (19, true), 7, []⟩,
    ⟨some 24, .mv (.t 0), some (19, true), 8, []⟩,
    ⟨some 25, .mv (.t 7), some (19, true), 9, []⟩,
    ⟨some 26, .bin .sub .num (.t 25) (.c (.int .i64 1)), some (19, true), 10, []⟩,
    ⟨some 27, .iad none 1 (.t 24) (.t 26), some (19, true), 11, []⟩,
    ⟨some 28, .load none (.t 27), some (19, true), 12, []⟩,
    ⟨some 29, .call (.f 222) [(.t 23), (.t 28)], some (19, true), 13, []⟩,
    ⟨some 30, .pick (.t 19) (.t 29) (.c (.bool false)), none, 14, []⟩])
  (.cond (.t 30) (.skip)
  (.exit 2)))
  (.seq (.block 3 (.reg true [0, 1, 2, 6, 7] [⟨some 33, .mv (.t 0), none, 0, []⟩,
    ⟨some 34, .mv (.t 7), none, 1, []⟩,
    ⟨some 35, .mv (.t 0), none, 2, []⟩,
    ⟨some 36, .mv (.t 7), none, 3, []⟩,
    ⟨some 37, .bin .sub .num (.t 36) (.c (.int .i64 1)), none, 4, []⟩,
    ⟨some 38, .mv (.t 0), none, 5, []⟩,
    ⟨some 39, .mv (.t 7), none, 6, []⟩,
    ⟨some 40, .bin .sub .num (.t 39) (.c (.int .i64 1)), none, 7, []⟩,
    ⟨some 41, .iad none 1 (.t 38) (.t 40), none, 8, []⟩,
    ⟨some 42, .load none (.t 41), none, 9, []⟩,
    ⟨some 43, .mv (.t 0), none, 10, []⟩,
    ⟨some 44, .mv (.t 7), none, 11, []⟩,
    ⟨some 45, .iad none 1 (.t 43) (.t 44), none, 12, []⟩,
    ⟨some 46, .load none (.t 45), none, 13, []⟩,
    ⟨some 47, .iad none 1 (.t 33) (.t 34), none, 14, []⟩,
    ⟨none, .store 1 (.t 47) (.t 42), none, 15, []⟩,
    ⟨some 48, .iad none 1 (.t 35) (.t 37), none, 16, []⟩,
    ⟨none, .store 1 (.t 48) (.t 46), none, 17, []⟩]))
  (.reg false [0, 1, 2, 6, 7] [⟨some 31, .mv (.t 7), none, 0, []⟩,
    ⟨some 32, .bin .sub .num (.t 31) (.c (.int .i64 1)), none, 0, []⟩,
    ⟨some 7, .mv (.t 32), none, 0, []⟩]))
def slices_insertionSortOrdered_int_l0 : Cd := .seq (.seq (.reg false [0, 1, 2, 6, 12] [⟨some 10, .mv (.t 6), none, 0, []⟩,
    ⟨some 11, .mv (.t 2), none, 0, []⟩,
    ⟨some 12, .bin .lss .num (.t 10) (.t 11), none, 0, []⟩])
  (.cond (.t 12) (.skip)
  (.exit 0)))
  (.seq (.block 1 (.seq (.reg false [0, 1, 2, 6, 7] [⟨some 15, .mv (.t 6), none, 0, []⟩,
    ⟨some 7, .mv (.t 15), none, 0, []⟩])
  (.block 2 (.loop [0, 1, 2, 6, 7] slices_insertionSortOrdered_int_l1))))
  (.reg false [0, 1, 2, 6] [⟨some 13, .mv (.t 6), none, 0, []⟩,
    ⟨some 14, .bin .add .num (.t 13) (.c (.int .i64 1)), none, 0, []⟩,
    ⟨some 6, .mv (.t 14), none, 0, []⟩]))
/-- slices.insertionSortOrdered[int] -/
def slices_insertionSortOrdered_int : AFun := ⟨3, 49, true, [],
  .seq (.reg false [0, 1, 2, 6] [⟨some 8, .mv (.t 1), none, 0, []⟩,
    ⟨some 9, .bin .add .num (.t 8) (.c (.int .i64 1)), none, 0, []⟩,
    ⟨some 6, .mv (.t 9), none, 0, []⟩])
  (.block 0 (.loop [0, 1, 2, 6] slices_insertionSortOrdered_int_l0))⟩

/-- cmp.Less[int] -/
def cmp_Less_int : AFun := ⟨2, 17, true, [.t 4],
  .seq (.reg false [0, 1] [⟨some 4, .mv (.c (.bool false)), none, 0, []⟩])
  (.seq (.reg false [4] [⟨some 5, .mv (.t 0), none, 0, []⟩,
    ⟨some 6, .call (.f 226) [(.t 5)], none, 0, []⟩,
    ⟨some 7, .mv (.t 6), none, 0, []⟩,
    ⟨some 8, .mv (.t 1), some (7, true), 0, []⟩,
    ⟨some 9, .call (.f 226) [(.t 8)], some (7, true), 0, []⟩,
    ⟨some 10, .un .not (.t 9), some (7, true), 0, []⟩,
    ⟨some 11, .pick (.t 7) (.t 10) (.c (.bool false)), none, 0, []⟩,
    ⟨some 12, .mv (.t 11), none, 0, []⟩,
    ⟨some 13, .mv (.t 0), some (12, false), 0, []⟩,
    ⟨some 14, .mv (.t 1), some (12, false), 0, []⟩,
    ⟨some 15, .bin .lss .num (.t 13) (.t 14), some (12, false), 0, []⟩,
    ⟨some 16, .pick (.t 12) (.c (.bool true)) (.t 15), none, 0, []⟩,
    ⟨some 4, .mv (.t 16), none, 0, []⟩])
  (.ret))⟩

def math_bits_Len32_s0 : ByteArray := ⟨#[0, 1, 2, 2, 3, 3, 3, 3, 4, 4, 4, 4, 4, 4, 4, 4, 5, 5, 5, 5, 5, 5, 5, 5, 5, 5, 5, 5, 5, 5, 5, 5, 6, 6, 6, 6, 6, 6, 6, 6, 6, 6, 6, 6, 6, 6, 6, 6, 6, 6, 6, 6, 6, 6, 6, 6, 6, 6, 6, 6, 6, 6, 6, 6, 7, 7, 7, 7, 7, 7, 7, 7, 7, 7, 7, 7, 7, 7, 7, 7, 7, 7, 7, 7, 7, 7, 7, 7, 7, 7, 7, 7, 7, 7, 7, 7, 7, 7, 7, 7, 7, 7, 7, 7, 7, 7, 7, 7, 7, 7, 7, 7, 7, 7, 7, 7, 7, 7, 7, 7, 7, 7, 7, 7, 7, 7, 7, 7, 8, 8, 8, 8, 8, 8, 8, 8, 8, 8, 8, 8, 8, 8, 8, 8, 8, 8, 8, 8, 8, 8, 8, 8, 8, 8, 8, 8, 8, 8, 8, 8, 8, 8, 8, 8, 8, 8, 8, 8, 8, 8, 8, 8, 8, 8, 8, 8, 8, 8, 8, 8, 8, 8, 8, 8, 8, 8, 8, 8, 8, 8, 8, 8, 8, 8, 8, 8, 8, 8, 8, 8, 8, 8, 8, 8, 8, 8, 8, 8, 8, 8, 8, 8, 8, 8, 8, 8, 8, 8, 8, 8, 8, 8, 8, 8, 8, 8, 8, 8, 8, 8, 8, 8, 8, 8, 8, 8, 8, 8, 8, 8, 8, 8, 8, 8, 8, 8, 8, 8, 8, 8, 8, 8, 8, 8, 8, 8]⟩
/-- math/bits.Len32 -/
def math_bits_Len32 : AFun := ⟨1, 19, true, [.t 2],
  .seq (.reg false [0, 2] [⟨some 2, .mv (.c (.int .i64 0)), none, 0, []⟩])
  (.seq (.seq (.reg false [0, 2, 4] [⟨some 3, .mv (.t 0), none, 0, []⟩,
    ⟨some 4, .bin .geq .num (.t 3) (.c (.int .u32 65536)), none, 0, []⟩])
  (.cond (.t 4) (.seq (.reg false [0] [⟨some 5, .mv (.t 0), none, 0, []⟩,
    ⟨some 6, .bin .shr .num (.t 5) (.c (.int .u64 16)), none, 0, []⟩,
    ⟨some 0, .mv (.t 6), none, 0, []⟩])
  (.reg false [0, 2] [⟨some 2, .mv (.c (.int .i64 16)), none, 0, []⟩]))
  (.skip)))
  (.seq (.seq (.reg false [0, 2, 8] [⟨some 7, .mv (.t 0), none, 0, []⟩,
    ⟨some 8, .bin .geq .num (.t 7) (.c (.int .u32 256)), none, 0, []⟩])
  (.cond (.t 8) (.seq (.reg false [0, 2] [⟨some 9, .mv (.t 0), none, 0, []⟩,
    ⟨some 10, .bin .shr .num (.t 9) (.c (.int .u64 8)), none, 0, []⟩,
    ⟨some 0, .mv (.t 10), none, 0, []⟩])
  (.reg false [0, 2] [⟨some 11, .mv (.t 2), none, 0, []⟩,
    ⟨some 12, .bin .add .num (.t 11) (.c (.int .i64 8)), none, 0, []⟩,
    ⟨some 2, .mv (.t 12), none, 0, []⟩]))
  (.skip)))
  (.seq (.reg false [2] [⟨some 13, .mv (.t 2), none, 0, []⟩,
    ⟨some 14, .mv (.t 0), none, 0, []⟩,
    ⟨some 15, .conv .u8 (.t 14), none, 0, []⟩,
    ⟨some 16, .idx none 0 none (.c (.str math_bits_Len32_s0)) (.t 15), none, 0, []⟩,
    ⟨some 17, .conv .i64 (.t 16), none, 0, []⟩,
    ⟨some 18, .bin .add .num (.t 13) (.t 17), none, 0, []⟩,
    ⟨some 2, .mv (.t 18), none, 0, []⟩])
  (.ret))))⟩

def math_bits_Len64_s0 : ByteArray := ⟨#[0, 1, 2, 2, 3, 3, 3, 3, 4, 4, 4, 4, 4, 4, 4, 4, 5, 5, 5, 5, 5, 5, 5, 5, 5, 5, 5, 5, 5, 5, 5, 5, 6, 6, 6, 6, 6, 6, 6, 6, 6, 6, 6, 6, 6, 6, 6, 6, 6, 6, 6, 6, 6, 6, 6, 6, 6, 6, 6, 6, 6, 6, 6, 6, 7, 7, 7, 7, 7, 7, 7, 7, 7, 7, 7, 7, 7, 7, 7, 7, 7, 7, 7, 7, 7, 7, 7, 7, 7, 7, 7, 7, 7, 7, 7, 7, 7, 7, 7, 7, 7, 7, 7, 7, 7, 7, 7, 7, 7, 7, 7, 7, 7, 7, 7, 7, 7, 7, 7, 7, 7, 7, 7, 7, 7, 7, 7, 7, 8, 8, 8, 8, 8, 8, 8, 8, 8, 8, 8, 8, 8, 8, 8, 8, 8, 8, 8, 8, 8, 8, 8, 8, 8, 8, 8, 8, 8, 8, 8, 8, 8, 8, 8, 8, 8, 8, 8, 8, 8, 8, 8, 8, 8, 8, 8, 8, 8, 8, 8, 8, 8, 8, 8, 8, 8, 8, 8, 8, 8, 8, 8, 8, 8, 8, 8, 8, 8, 8, 8, 8, 8, 8, 8, 8, 8, 8, 8, 8, 8, 8, 8, 8, 8, 8, 8, 8, 8, 8, 8, 8, 8, 8, 8, 8, 8, 8, 8, 8, 8, 8, 8, 8, 8, 8, 8, 8, 8, 8, 8, 8, 8, 8, 8, 8, 8, 8, 8, 8, 8, 8, 8, 8, 8, 8, 8, 8]⟩
/-- math/bits.Len64 -/
def math_bits_Len64 : AFun := ⟨1, 25, true, [.t 2],
  .seq (.reg false [0, 2] [⟨some 2, .mv (.c (.int .i64 0)), none, 0, []⟩])
  (.seq (.seq (.reg false [0, 2, 4] [⟨some 3, .mv (.t 0), none, 0, []⟩,
    ⟨some 4, .bin .geq .num (.t 3) (.c (.int .u64 4294967296)), none, 0, []⟩])
  (.cond (.t 4) (.seq (.reg false [0] [⟨some 5, .mv (.t 0), none, 0, []⟩,
    ⟨some 6, .bin .shr .num (.t 5) (.c (.int .u64 32)), none, 0, []⟩,
    ⟨some 0, .mv (.t 6), none, 0, []⟩])
  (.reg false [0, 2] [⟨some 2, .mv (.c (.int .i64 32)), none, 0, []⟩]))
  (.skip)))
  (.seq (.seq (.reg false [0, 2, 8] [⟨some 7, .mv (.t 0), none, 0, []⟩,
    ⟨some 8, .bin .geq .num (.t 7) (.c (.int .u64 65536)), none, 0, []⟩])
  (.cond (.t 8) (.seq (.reg false [0, 2] [⟨some 9, .mv (.t 0), none, 0, []⟩,
    ⟨some 10, .bin .shr .num (.t 9) (.c (.int .u64 16)), none, 0, []⟩,
    ⟨some 0, .mv (.t 10), none, 0, []⟩])
  (.reg false [0, 2] [⟨some 11, .mv (.t 2), none, 0, []⟩,
    ⟨some 12, .bin .add .num (.t 11) (.c (.int .i64 16)), none, 0, []⟩,
    ⟨some 2, .mv (.t 12), none, 0, []⟩]))
  (.skip)))
  (.seq (.seq (.reg false [0, 2, 14] [⟨some 13, .mv (.t 0), none, 0, []⟩,
    ⟨some 14, .bin .geq .num (.t 13) (.c (.int .u64 256)), none, 0, []⟩])
  (.cond (.t 14) (.seq (.reg false [0, 2] [⟨some 15, .mv (.t 0), none, 0, []⟩,
    ⟨some 16, .bin .shr .num (.t 15) (.c (.int .u64 8)), none, 0, []⟩,
    ⟨some 0, .mv (.t 16), none, 0, []⟩])
  (.reg false [0, 2] [⟨some 17, .mv (.t 2), none, 0, []⟩,
    ⟨some 18, .bin .add .num (.t 17) (.c (.int .i64 8)), none, 0, []⟩,
    ⟨some 2, .mv (.t 18), none, 0, []⟩]))
  (.skip)))
  (.seq (.reg false [2] [⟨some 19, .mv (.t 2), none, 0, []⟩,
    ⟨some 20, .mv (.t 0), none, 0, []⟩,
    ⟨some 21, .conv .u8 (.t 20), none, 0, []⟩,
    ⟨some 22, .idx none 0 none (.c (.str math_bits_Len64_s0)) (.t 21), none, 0, []⟩,
    ⟨some 23, .conv .i64 (.t 22), none, 0, []⟩,
    ⟨some 24, .bin .add .num (.t 19) (.t 23), none, 0, []⟩,
    ⟨some 2, .mv (.t 24), none, 0, []⟩])
  (.ret)))))⟩

/-- slices.Clone[[]byte,byte] -/
def slices_Clone_byte_byte : AFun := ⟨1, 8, true, [.t 2],
  .seq (.reg false [0] [⟨some 2, .mv (.c (.sl none 0 0 0)), none, 0, []⟩])
  (.seq (.seq (.reg false [0, 4] [⟨some 3, .mv (.t 0), none, 0, []⟩,
    ⟨some 4, .bin .eql .slice (.t 3) (.c (.sl none 0 0 0)), none, 0, []⟩])
  (.cond (.t 4) (.seq (.reg false [2] [⟨some 2, .mv (.c (.sl none 0 0 0)), none, 0, []⟩])
  (.ret))
  (.skip)))
  (.seq (.reg false [2] [⟨some 5, .bslice 1 [.int .u8 0] 0 [], none, 0, []⟩,
    ⟨some 6, .mv (.t 0), none, 0, []⟩,
    ⟨some 7, .append 1 1 (.t 5) (.t 6), none, 0, []⟩,
    ⟨some 2, .mv (.t 7), none, 0, []⟩])
  (.ret)))⟩

/-- cmp.isNaN[int] -/
def cmp_isNaN_int : AFun := ⟨1, 6, true, [.t 2],
  .seq (.reg false [0] [⟨some 2, .mv (.c (.bool false)), none, 0, []⟩])
  (.seq (.reg false [2] [⟨some 3, .mv (.t 0), none, 0, []⟩,
    ⟨some 4, .mv (.t 0), none, 0, []⟩,
    ⟨some 5, .bin .neq .num (.t 3) (.t 4), none, 0, []⟩,
    ⟨some 2, .mv (.t 5), none, 0, []⟩])
  (.ret))⟩

/-- A program that has them. -/
structure HasFw (P : Prog) : Prop where
  h_file_Write : P 200 = some file_Write
  h_file_Read : P 199 = some file_Read
  h_file_order_step : P 202 = some file_order_step
  h_file_caught : P 204 = some file_caught
  h_file_Read_1 : P 203 = some file_Read_1
  h_file_Read_1_rng : P 209 = some file_Read_1_rng
  h_file_order_may : P 206 = some file_order_may
  h_file_order_let : P 205 = some file_order_let
  h_file_caught_1 : P 207 = some file_caught_1
  h_file_opened : P 213 = some file_opened
  h_file_reader_segments : P 212 = some file_reader_segments
  h_file_reader_ended : P 208 = some file_reader_ended
  h_file_pages_take : P 211 = some file_pages_take
  h_slices_Sort_int_int : P 185 = some slices_Sort_int_int
  h_file_wrong : P 214 = some file_wrong
  h_file_reader_segments_1 : P 215 = some file_reader_segments_1
  h_file_need : P 216 = some file_need
  h_slices_pdqsortOrdered_int : P 218 = some slices_pdqsortOrdered_int
  h_math_bits_Len : P 217 = some math_bits_Len
  h_file_reader_headers : P 221 = some file_reader_headers
  h_file_reader_data : P 219 = some file_reader_data
  h_file_reader_header : P 220 = some file_reader_header
  h_slices_insertionSortOrdered_int : P 223 = some slices_insertionSortOrdered_int
  h_cmp_Less_int : P 222 = some cmp_Less_int
  h_math_bits_Len32 : P 224 = some math_bits_Len32
  h_math_bits_Len64 : P 112 = some math_bits_Len64
  h_slices_Clone_byte_byte : P 225 = some slices_Clone_byte_byte
  h_cmp_isNaN_int : P 226 = some cmp_isNaN_int
  h_shut : P 210 = some cdShut

end Go.Ab
namespace Go.Ab
section
variable {P : Prog} {H : Heap} {R : List As} {Q : Out → Heap → Prop}
def ordC (most : Nat) (o : OSt) (r : Nat) : List V := [.int .i64 o.next, .int .i64 o.pages, .int .i64 most, .int .i64 (if o.op then (o.pages : Int) else 0), .map (some r)]
set_option maxHeartbeats 1000000 in
theorem may_ct (hp : HasFw P) {b r most : Nat} {o : OSt} {v1 v2 v3 : V} {s : Sg} (ok : o.Ok most) (hm : most ≤ 1000000) (hs : Hs H (Cel b (ordC most o r) :: R)) (h1 : one v1 = true) (h2 : one v2 = true) (h3 : one v3 = true)
    (hQ : ∀ H', Hs H' (Cel b (ordC most o r) :: R) → Q (.ret (.bool (mayS most o s))) H') : Call P 206 [.ptr (some (b, 0)), .agg (s.cells v1 v2 v3)] H Q := by
  refine call_of hp.h_file_order_may rfl ?_
  obtain ⟨num, kind, page, refs, keep, stay, data⟩ := s
  obtain ⟨next, pages, op, held⟩ := o
  have q1 := ok.pg
  have q2 := ok.op
  dsimp only at q1 q2
  have g1 := hs.alloc (l := Sg.cells ⟨num, kind, page, refs, keep, stay, data⟩ v1 v2 v3)
  replace hQ := hQ _ g1.tail
  have r1 := rd_s g1.cel
  have r2 := rd_s (Hs.p1 g1).cel
  unfold ordC Sg.cells at *
  unfold mayS at hQ
  dsimp only at *
  clear hs g1
  by_cases k1 : kind = 1
  · rw [if_pos k1] at hQ
    cases op with
    | true =>
      have := q2 rfl
      simp only [if_true] at *
      simp -implicitDefEqProofs -dsimp (disch := omega) only [go_sem, dec_t, dec_f, r1, r2, d_gre]
      exact hQ
    | false =>
      simp only [Bool.false_eq_true, if_false] at *
      by_cases k2 : page = (pages : Int) + 1
      · by_cases k3 : page ≤ (most : Int)
        · rw [dec_t k2, dec_t k3] at hQ
          simp -implicitDefEqProofs -dsimp (disch := omega) only [go_sem, dec_t, dec_f, r1, r2, d_gre, w64]
          exact hQ
        · rw [dec_t k2, dec_f k3] at hQ
          simp -implicitDefEqProofs -dsimp (disch := omega) only [go_sem, dec_t, dec_f, r1, r2, d_gre, w64]
          exact hQ
      · rw [dec_f k2] at hQ
        simp -implicitDefEqProofs -dsimp (disch := omega) only [go_sem, dec_t, dec_f, r1, r2, d_gre, w64]
        exact hQ
  rw [if_neg k1] at hQ
  by_cases k2 : kind = 2
  · rw [if_pos k2] at hQ
    by_cases k3 : page = 0
    · rw [dec_t k3] at hQ
      simp -implicitDefEqProofs -dsimp (disch := omega) only [go_sem, dec_t, dec_f, r1, r2, d_gre]
      exact hQ
    · rw [dec_f k3] at hQ
      cases op with
      | true =>
        simp only [if_true] at *
        by_cases k4 : page = (pages : Int)
        · rw [dec_t k4] at hQ
          simp -implicitDefEqProofs -dsimp (disch := omega) only [go_sem, dec_t, dec_f, r1, r2, d_gre]
          exact hQ
        · rw [dec_f k4] at hQ
          simp -implicitDefEqProofs -dsimp (disch := omega) only [go_sem, dec_t, dec_f, r1, r2, d_gre]
          exact hQ
      | false =>
        simp only [Bool.false_eq_true, if_false] at *
        simp -implicitDefEqProofs -dsimp (disch := omega) only [go_sem, dec_t, dec_f, r1, r2, d_gre]
        exact hQ
  rw [if_neg k2] at hQ
  by_cases k3 : kind = 7
  · rw [if_pos k3] at hQ
    cases op with
    | true =>
      have := q2 rfl
      simp only [if_true] at *
      simp -implicitDefEqProofs -dsimp (disch := omega) only [go_sem, dec_t, dec_f, r1, r2, d_gre]
      exact hQ
    | false =>
      simp only [Bool.false_eq_true, if_false] at *
      by_cases k4 : pages = most
      · rw [dec_t k4] at hQ
        simp -implicitDefEqProofs -dsimp (disch := omega) only [go_sem, dec_t, dec_f, r1, r2, d_gre]
        exact hQ
      · rw [dec_f k4] at hQ
        simp -implicitDefEqProofs -dsimp (disch := omega) only [go_sem, dec_t, dec_f, r1, r2, d_gre]
        exact hQ
  rw [if_neg k3] at hQ
  cases op with
  | true =>
    have := q2 rfl
    simp only [if_true] at *
    by_cases k4 : page = (pages : Int)
    · rw [dec_t k4] at hQ
      simp -implicitDefEqProofs -dsimp (disch := omega) only [go_sem, dec_t, dec_f, r1, r2, d_gre]
      exact hQ
    · rw [dec_f k4] at hQ
      simp -implicitDefEqProofs -dsimp (disch := omega) only [go_sem, dec_t, dec_f, r1, r2, d_gre]
      exact hQ
  | false =>
    simp only [Bool.false_eq_true, if_false] at *
    simp -implicitDefEqProofs -dsimp (disch := omega) only [go_sem, dec_t, dec_f, r1, r2, d_gre]
    exact hQ
end
end Go.Ab
namespace Go.Ab
section
variable {P : Prog} {H : Heap} {R : List As} {Q : Out → Heap → Prop}
theorem look_ents (K : List Int) (n : Int) : lookR (.agg [.sl none 0 0 0]) true (mget (ents K) n) = .tup [.agg [.sl none 0 0 0], .bool (decide (n ∈ K))] := by
  rw [mget_ents]
  by_cases h : n ∈ K
  · rw [if_pos h, dec_t h]; rfl
  · rw [if_neg h, dec_f h]; rfl
def letF (b bx : Nat) (v : V) (n i : Nat) : Fr := ⟨[(0, .ptr (some (b, 0))), (2, .sl none 0 0 0), (4, .ptr (some (bx, 0))), (9, v), (10, .int .i64 (n : Nat)), (11, .int .i64 (i : Nat))], []⟩
theorem let_loop {b bx r : Nat} {held : List Int} {v1 v2 : V} {refs : List Int} {keep : List Bool} {a0 a1 a2 a3 a4 c1 c2 c3 c4 : V} (hR : ∀ H', Hs H' R → Arr H' v1 1 refs.length (i64s refs) ∧ Arr H' v2 1 keep.length (bools keep)) (hk : keep.length = refs.length) (hl : refs.length ≤ 140737488355328)
    (hs : Hs H (MpA r held :: Cel b [c1, c2, c3, c4, .map (some r)] :: Cel bx [a0, a1, a2, v1, v2, a3, a4] :: R)) {Qp : Post} {s' t'} (h1 : ∀ H' ex, Hs H' (MpA r (delS held refs keep) :: Cel b [c1, c2, c3, c4, .map (some r)] :: Cel bx [a0, a1, a2, v1, v2, a3, a4] :: R) → Qp (.exit 0) ⟨(0, .ptr (some (b, 0))) :: (2, .sl none 0 0 0) :: (4, .ptr (some (bx, 0))) :: ex, []⟩ H') :
    loopL (Call P) [0, 2, 4, 9, 10, 11] file_order_let_l0 Qp s' t' (letF b bx v1 refs.length 0) H := by
  refine loop_cnt refs.length (letF b bx v1 refs.length) (fun i H => Hs H (MpA r (delS held (refs.take i) (keep.take i)) :: Cel b [c1, c2, c3, c4, .map (some r)] :: Cel bx [a0, a1, a2, v1, v2, a3, a4] :: R)) (fun i H K hi hS hx hy hz => ?_) 0 H (Nat.zero_le _) (by simpa [delS] using hs)
  unfold letF
  by_cases hlt : i < refs.length
  · obtain ⟨k1, k2⟩ := hR H hS.tail.tail.tail
    obtain ⟨b1, o1, z1, rfl, rl⟩ := arr_int k1 hlt
    obtain ⟨b2, o2, z2, rfl, rk⟩ := arr_bool k2 (i := i) (by omega)
    have hd := delS_snoc refs keep held hlt (by omega)
    have rc := rd_s (Hs.p2 hS).cel
    have ro := rd_s (Hs.p1 hS).cel
    generalize refs[i] = n at *
    generalize keep[i] = q at *
    cases q with
    | true =>
      rw [if_pos rfl] at hd
      simp -implicitDefEqProofs -dsimp (disch := omega) only [go_sem, dec_t, dec_f, file_order_let_l0, Int.toNat_natCast, Nat.mul_one, rl, rc, rk, w64, cadd1]
      refine hx hlt H ?_
      rw [hd]
      exact hS
    | false =>
      rw [if_neg (by decide)] at hd
      simp -implicitDefEqProofs -dsimp (disch := omega) only [go_sem, dec_t, dec_f, file_order_let_l0, Int.toNat_natCast, Nat.mul_one, rl, rc, rk, ro]
      refine ops_mdelE rfl rfl hS.mp fun o ho => ?_
      have g := hS.mput ho
      rw [← hd] at g
      simp -implicitDefEqProofs -dsimp (disch := omega) only [go_sem, dec_t, dec_f, w64, cadd1]
      exact hx hlt _ g
  · have : i = refs.length := by omega
    subst this
    rw [List.take_length, ← hk, List.take_length] at hS
    simp -implicitDefEqProofs -dsimp (disch := omega) only [go_sem, dec_t, dec_f, file_order_let_l0]
    rw [hy]
    exact h1 H _ hS
theorem let_ct (hp : HasFw P) {b r most : Nat} {o : OSt} {v1 v2 v3 : V} {s : Sg} (hR : ∀ H', Hs H' R → SgR H' v1 v2 v3 s) (hk : s.keep.length = s.refs.length) (nd : o.held.Nodup) (hn : s.num ∉ o.held) {c1 c2 c3 c4 : V} (hs : Hs H (MpA r o.held :: Cel b [c1, c2, c3, c4, .map (some r)] :: R))
    (hQ : ∀ H', Hs H' (MpA r (keepS o.held s ++ if s.stay then [s.num] else []) :: Cel b [c1, c2, c3, c4, .map (some r)] :: R) → Q (.ret (.tup [])) H') : Call P 205 [.ptr (some (b, 0)), .agg (s.cells v1 v2 v3), .sl none 0 0 0] H Q := by
  refine call_of hp.h_file_order_let rfl ?_
  have hr0 := hR H hs.tail.tail
  obtain ⟨a1, z1, e1, rfl⟩ := hr0.refs.shape
  obtain ⟨a2, z2, e2, rfl⟩ := hr0.keep.shape
  obtain ⟨a3, z3, e3, rfl⟩ := hr0.data.shape
  obtain ⟨num, kind, page, refs, keep, stay, data⟩ := s
  have l1 := hr0.ok.l1
  clear hr0
  unfold keepS at hQ
  dsimp only at *
  have g1 := Hs.p2 (hs.alloc (l := Sg.cells ⟨num, kind, page, refs, keep, stay, data⟩ (.sl a1 refs.length z1 e1) (.sl a2 keep.length z2 e2) (.sl a3 data.length z3 e3)))
  unfold Sg.cells at *
  dsimp only at *
  have r1 := rd_s (Hs.p1 g1).cel
  simp -implicitDefEqProofs -dsimp (disch := omega) only [go_sem, dec_t, dec_f, r1]
  have g1 := Hs.p2 g1
  generalize H.new _ = H1 at *
  generalize H.next = bx at *
  refine let_loop (fun H' h => ⟨(hR H' h).refs, (hR H' h).keep⟩) hk l1 g1 fun H2 ex g2 => ?_
  rw [delS_eq _ _ _ nd] at g2
  have r2 := rd_s (Hs.p2 g2).cel
  have r3 := rd_s (Hs.p1 g2).cel
  cases stay with
  | false =>
    simp only [Bool.false_eq_true, if_false, List.append_nil] at hQ
    simp -implicitDefEqProofs -dsimp (disch := omega) only [go_sem, dec_t, dec_f, r2]
    exact hQ _ (Hs.p2 g2).tail
  | true =>
    simp only [if_true] at hQ
    simp -implicitDefEqProofs -dsimp (disch := omega) only [go_sem, dec_t, dec_f, r2, r3]
    refine d_mupd rfl rfl rfl g2.mp (fun h => hn (List.mem_filter.1 h).1) fun o' ho => ⟨.inl rfl, ?_⟩
    have g3 := g2.mput ho
    simp -implicitDefEqProofs -dsimp (disch := omega) only [go_sem, dec_t, dec_f, ]
    exact hQ _ (Hs.p2 g3).tail
end
end Go.Ab
namespace Go.Ab
section
variable {P : Prog} {H : Heap} {R : List As} {Q : Out → Heap → Prop}
def stpF (b bx : Nat) (v : V) (n i : Nat) : Fr := ⟨[(0, .ptr (some (b, 0))), (3, .ptr (some (bx, 0))), (23, v), (24, .int .i64 (n : Nat)), (25, .int .i64 (i : Nat))], []⟩
theorem step_loop {b bx r : Nat} {held : List Int} {v1 : V} {refs : List Int} {cx : List V} {c1 c2 c3 c4 : V} (hR : ∀ H', Hs H' R → Arr H' v1 1 refs.length (i64s refs)) (hl : refs.length ≤ 140737488355328)
    (hs : Hs H (MpA r held :: Cel b [c1, c2, c3, c4, .map (some r)] :: Cel bx cx :: R)) {Qp : Post} {s' t'}
    (h1 : (∀ n ∈ refs, n ∈ held) → ∀ H' ex, Hs H' (MpA r held :: Cel b [c1, c2, c3, c4, .map (some r)] :: Cel bx cx :: R) → Qp (.exit 1) ⟨(0, .ptr (some (b, 0))) :: (3, .ptr (some (bx, 0))) :: ex, []⟩ H')
    (h2 : (∃ n ∈ refs, n ∉ held) → ∀ H' ex, Hs H' (MpA r held :: Cel b [c1, c2, c3, c4, .map (some r)] :: Cel bx cx :: R) → Qp .ret ⟨(4, .int .i64 162) :: ex, []⟩ H') :
    loopL (Call P) [0, 3, 23, 24, 25] file_order_step_l0 Qp s' t' (stpF b bx v1 refs.length 0) H := by
  refine loop_cnt refs.length (stpF b bx v1 refs.length) (fun i H => (∀ n ∈ refs.take i, n ∈ held) ∧ Hs H (MpA r held :: Cel b [c1, c2, c3, c4, .map (some r)] :: Cel bx cx :: R)) (fun i H K hi hS hx hy hz => ?_) 0 H (Nat.zero_le _) ⟨by simp, hs⟩
  obtain ⟨hall, hS⟩ := hS
  unfold stpF
  by_cases hlt : i < refs.length
  · obtain ⟨b1, o1, z1, rfl, rl⟩ := arr_int (hR H hS.tail.tail.tail) hlt
    have ht := List.take_succ_eq_append_getElem hlt
    have hm : refs[i] ∈ refs := List.getElem_mem hlt
    have ro := rd_s (Hs.p1 hS).cel
    have g := hS.alloc (l := [.sl none 0 0 0])
    have wv := wr_s (l := [.sl none 0 0 0]) g.cel 0
    have g2 := (g.put (l' := [.sl none 0 0 0])).tail
    generalize refs[i] = n at *
    by_cases hn : n ∈ held
    · have hxx := hx hlt _ ⟨fun m hm => by rw [ht] at hm; rcases List.mem_append.1 hm with h | h; exact hall m h; rw [List.mem_singleton.1 h]; exact hn, g2⟩
      rcases hS.mp with hg | hg
      all_goals
        simp -implicitDefEqProofs -dsimp (disch := omega) only [go_sem, dec_t, dec_f, file_order_step_l0, Int.toNat_natCast, Nat.mul_one, rl, ro, hg, look_ents, dec_t hn, wv, w64, cadd1]
        exact hxx
    · have hxx := h2 ⟨n, hm, hn⟩
      rcases hS.mp with hg | hg
      all_goals
        simp -implicitDefEqProofs -dsimp (disch := omega) only [go_sem, dec_t, dec_f, file_order_step_l0, Int.toNat_natCast, Nat.mul_one, rl, ro, hg, look_ents, dec_f hn, wv]
        rw [hz]
        exact hxx _ _ g2
  · have : i = refs.length := by omega
    subst this
    rw [List.take_length] at hall
    simp -implicitDefEqProofs -dsimp (disch := omega) only [go_sem, dec_t, dec_f, file_order_step_l0]
    rw [hy]
    exact h1 hall H _ hS
set_option maxHeartbeats 2000000 in
theorem step_ct (hp : HasFw P) {b r most : Nat} {o : OSt} {v1 v2 v3 : V} {s : Sg} (ok : o.Ok most) (hm : most ≤ 1000000) (hn : o.next ≤ 1000000000000) (hR : ∀ H', Hs H' R → SgR H' v1 v2 v3 s) (hk : s.keep.length = s.refs.length) (hs : Hs H (MpA r o.held :: Cel b (ordC most o r) :: R))
    (h0 : comeE most o s = 0 → ∀ H', Hs H' (MpA r (comeO o s).held :: Cel b (ordC most (comeO o s) r) :: R) → Q (.ret (.int .i64 0)) H') (h1 : comeE most o s ≠ 0 → ∀ H', Hs H' R → Q (.ret (.int .i64 (comeE most o s))) H') : Call P 202 [.ptr (some (b, 0)), .agg (s.cells v1 v2 v3)] H Q := by
  refine call_of hp.h_file_order_step rfl ?_
  have hr0 := hR H hs.tail.tail
  obtain ⟨a1, z1, e1, rfl⟩ := hr0.refs.shape
  obtain ⟨a2, z2, e2, rfl⟩ := hr0.keep.shape
  obtain ⟨a3, z3, e3, rfl⟩ := hr0.data.shape
  have l1 := hr0.ok.l1
  clear hr0
  have g1 := hs.alloc (l := s.cells (.sl a1 s.refs.length z1 e1) (.sl a2 s.keep.length z2 e2) (.sl a3 s.data.length z3 e3))
  have r1 := rd_s g1.cel
  have r2 := rd_s (Hs.p2 g1).cel
  have rm := rd_m g1.cel 7
  by_cases kn : s.num = (o.next : Int)
  rotate_left
  · have he : comeE most o s = 161 := by unfold comeE; rw [if_pos kn]
    rw [he] at h1
    have h1 := h1 (by decide) _ g1.tail.tail.tail
    obtain ⟨num, kind, page, refs, keep, stay, data⟩ := s
    unfold Sg.cells ordC at *
    dsimp only at *
    simp -implicitDefEqProofs -dsimp (disch := omega) only [go_sem, dec_t, dec_f, r1, r2]
    exact h1
  have e1' : mayS most o s = false → comeE most o s = 151 := fun k => by unfold comeE; rw [if_neg (by simpa using kn), if_pos k]
  have e2' : mayS most o s = true → (∃ n ∈ s.refs, n ∉ o.held) → comeE most o s = 162 := fun k k2 => by unfold comeE; rw [if_neg (by simpa using kn), if_neg (by rw [k]; decide), if_pos k2]
  have e3' : mayS most o s = true → (∀ n ∈ s.refs, n ∈ o.held) → comeE most o s = 0 := fun k k2 => by unfold comeE; rw [if_neg (by simpa using kn), if_neg (by rw [k]; decide), if_neg (fun ⟨n, h1, h2⟩ => h2 (k2 n h1))]
  obtain ⟨num, kind, page, refs, keep, stay, data⟩ := s
  have c1 : Sg.cells ⟨num, kind, page, refs, keep, stay, data⟩ (.sl a1 refs.length z1 e1) (.sl a2 keep.length z2 e2) (.sl a3 data.length z3 e3) = [.int .i64 num, .int .i64 kind, .int .i64 page, .sl a1 refs.length z1 e1, .sl a2 keep.length z2 e2, .bool stay, .sl a3 data.length z3 e3] := rfl
  rw [c1] at r1 r2 rm g1 ⊢
  dsimp only at kn l1 hk e2' e3'
  have r2' := r2
  unfold ordC at r2'
  simp -implicitDefEqProofs -dsimp (disch := omega) only [go_sem, dec_t, dec_f, r1, r2', rm]
  generalize hH1 : H.new _ = H1 at *
  generalize hbx : H.next = bx at *
  clear r1 r2 r2' rm hs
  rw [← c1]
  refine may_ct hp ok hm (Hs.p2 g1) rfl rfl rfl fun H2 g2 => ?_
  have g2 : Hs H2 (MpA r o.held :: Cel b (ordC most o r) :: Cel bx _ :: R) := Hs.p2 g2
  cases hmay : mayS most o ⟨num, kind, page, refs, keep, stay, data⟩ with
  | false =>
    rw [e1' hmay] at h1
    have h1 := h1 (by decide) H2 g2.tail.tail.tail
    simp -implicitDefEqProofs -dsimp (disch := omega) only [go_sem, dec_t, dec_f, ]
    exact h1
  | true =>
  have r1 := rd_s (Hs.p2 g2).cel
  simp -implicitDefEqProofs -dsimp (disch := omega) only [go_sem, dec_t, dec_f, r1]
  unfold ordC at g2
  refine step_loop (fun H' h => (hR H' h).refs) l1 g2 (fun hall H3 ex g3 => ?_) (fun hno H3 ex g3 => ?_)
  rotate_left
  · rw [e2' hmay hno] at h1
    have h1 := h1 (by decide) H3 g3.tail.tail.tail
    simp -implicitDefEqProofs -dsimp (disch := omega) only [go_sem, dec_t, dec_f, ]
    exact h1
  have hz := e3' hmay hall
  have h0 := h0 hz
  have hok := ok.come hz
  clear h1 e1' e2' e3'
  obtain ⟨nx, hnx⟩ : ∃ nx : Int, nx = ((o.next + 1 : Nat) : Int) := ⟨_, rfl⟩
  have ecast : (o.next : Int) + 1 = nx := by omega
  have r3 := rd_s (Hs.p1 g3).cel
  have w3 := wr_s (Hs.p1 g3).cel 0
  have g4 := (Hs.p1 g3).put (l' := [.int .i64 nx, .int .i64 o.pages, .int .i64 most, .int .i64 (if o.op then (o.pages : Int) else 0), .map (some r)])
  have r4 := rd_s (Hs.p2 g4).cel
  have r4b := rd_s g4.cel
  have rm4 := rd_m (Hs.p2 g4).cel 7
  have hnot : num ∉ o.held := fun h => by have := ok.lt _ h; omega
  have fin : ∀ (cx : List V) (c2 c4 : V) (H5 : Heap), Hs H5 (MpA r o.held :: Cel b [.int .i64 nx, c2, .int .i64 most, c4, .map (some r)] :: Cel bx cx :: R) → (c2 = .int .i64 ((comeO o ⟨num, kind, page, refs, keep, stay, data⟩).pages : Nat)) →
      (c4 = .int .i64 (if (comeO o ⟨num, kind, page, refs, keep, stay, data⟩).op then ((comeO o ⟨num, kind, page, refs, keep, stay, data⟩).pages : Int) else 0)) → ∀ Q' : Out → Heap → Prop, (∀ H', Q (.ret (.int .i64 0)) H' → Q' (.ret (.tup [])) H') →
      Call P 205 [.ptr (some (b, 0)), .agg (Sg.cells ⟨num, kind, page, refs, keep, stay, data⟩ (.sl a1 refs.length z1 e1) (.sl a2 keep.length z2 e2) (.sl a3 data.length z3 e3)), .sl none 0 0 0] H5 Q' := fun cx c2 c4 H5 g5 hc2 hc4 Q' hQ' => by
    subst hc2 hc4 hnx
    refine let_ct (most := most) (o := o) hp (fun H' h => hR H' h.tail) hk ok.nd hnot g5 fun H6 g6 => hQ' H6 (h0 H6 ?_)
    have := (Hs.p2 g6).tail
    unfold ordC
    exact this
  rw [c1] at fin
  clear hnx
  have hpp : kind = 1 → page = (o.pages : Int) + 1 := fun k => by
    unfold mayS at hmay
    rw [if_pos k] at hmay
    simp only [Bool.and_eq_true, decide_eq_true_eq] at hmay
    exact hmay.2.1
  by_cases k1 : kind = 1
  · subst k1
    have hpp := hpp rfl
    have w4 := wr_s g4.cel 3
    have g5 := g4.put (l' := [.int .i64 nx, .int .i64 o.pages, .int .i64 most, .int .i64 page, .map (some r)])
    have w5 := wr_s g5.cel 1
    have r5 := rd_s (Hs.p2 g5).cel
    have g6 := g5.put (l' := [.int .i64 nx, .int .i64 page, .int .i64 most, .int .i64 page, .map (some r)])
    have rm6 := rd_m (Hs.p2 g6).cel 7
    simp -implicitDefEqProofs -dsimp (disch := omega) only [go_sem, dec_t, dec_f, r3, w3, w64, ecast, r4, r4b, w4]
    refine aft_intro (t := tag _) (by simp [rechecks, recheck, fresh, Fr.get, Fr.put, look, step, opd, r5]) ?_
    simp -implicitDefEqProofs -dsimp (disch := omega) only [go_sem, dec_t, dec_f, w5, rm6]
    refine fin _ _ _ _ (Hs.p1 g6) ?_ ?_ _ fun H' h => ?_
    · simp only [comeO, if_true]; rw [hpp]; congr 1
    · simp only [comeO, if_true]; rw [hpp]; congr 1
    · simp -implicitDefEqProofs -dsimp (disch := omega) only [go_sem, dec_t, dec_f, ]
      exact h
  · by_cases k6 : kind = 6
    · subst k6
      have w4 := wr_s g4.cel 3
      have g5 := g4.put (l' := [.int .i64 nx, .int .i64 o.pages, .int .i64 most, .int .i64 0, .map (some r)])
      have rm5 := rd_m (Hs.p2 g5).cel 7
      simp -implicitDefEqProofs -dsimp (disch := omega) only [go_sem, dec_t, dec_f, r3, w3, w64, ecast, r4, r4b, w4, rm5]
      refine fin _ _ _ _ (Hs.p1 g5) ?_ ?_ _ fun H' h => ?_
      · simp [comeO]
      · simp [comeO]
      · simp -implicitDefEqProofs -dsimp (disch := omega) only [go_sem, dec_t, dec_f, ]
        exact h
    · simp -implicitDefEqProofs -dsimp (disch := omega) only [go_sem, dec_t, dec_f, r3, w3, w64, ecast, r4, r4b, rm4]
      refine fin _ _ _ _ (Hs.p1 g4) ?_ ?_ _ fun H' h => ?_
      · simp [comeO, k1]
      · simp [comeO, k1, k6]
      · simp -implicitDefEqProofs -dsimp (disch := omega) only [go_sem, dec_t, dec_f, ]
        exact h
end
end Go.Ab
namespace Go.Ab
section
variable {P : Prog} {H : Heap} {R : List As} {Q : Out → Heap → Prop}
theorem take_eq {α : Type} {l m : List α} (hlen : l.length = m.length) {i : Nat} (ht : l.take i = m.take i) (hi : i = l.length) : l = m := by
  subst hi
  rw [List.take_length, hlen, List.take_length] at ht
  exact ht
def eqF' (x y : V) (i : Nat) : Fr := ⟨[(0, x), (1, y), (5, .int .i64 (i : Nat))], []⟩
theorem eqInts_ct (hp : HasSeg P) {x y : V} {l m : List Int} (hx : Arr H x 1 l.length (i64s l)) (hy : Arr H y 1 m.length (i64s m)) (hl : l.length ≤ 140737488355328) (hQ : Q (.ret (.bool (decide (l = m)))) H) : Call P 164 [x, y] H Q := by
  obtain ⟨a1, c1, e1, rfl⟩ := hx.shape
  obtain ⟨a2, c2, e2, rfl⟩ := hy.shape
  refine call_of hp.h_burinref0_EqInts rfl ?_
  by_cases hlen : l.length = m.length
  rotate_left
  · rw [dec_f (show ¬ l = m from fun e => hlen (by rw [e]))] at hQ
    simp -implicitDefEqProofs -dsimp (disch := omega) only [go_sem, dec_t, dec_f, ]
    exact hQ
  simp -implicitDefEqProofs -dsimp (disch := omega) only [go_sem, dec_t, dec_f, ]
  refine loop_cnt l.length (eqF' (.sl a1 l.length c1 e1) (.sl a2 m.length c2 e2)) (fun i H' => H' = H ∧ l.take i = m.take i) (fun i H' K hi hS hn hx1 hx2 => ?_) 0 H (Nat.zero_le _) ⟨rfl, by simp⟩
  obtain ⟨rfl, ht⟩ := hS
  unfold eqF'
  by_cases hlt : i < l.length
  · obtain ⟨b3, o3, c3, hv3, hr3⟩ := arr_int hx hlt
    obtain ⟨b4, o4, c4, hv4, hr4⟩ := arr_int hy (i := i) (by omega)
    cases hv3; cases hv4
    have t1 := List.take_succ_eq_append_getElem hlt
    have t2 := List.take_succ_eq_append_getElem (l := m) (i := i) (by omega)
    by_cases hne : l[i] = m[i]
    · rw [hne] at hr3 t1
      generalize m[i] = z at *
      simp -implicitDefEqProofs -dsimp (disch := omega) only [go_sem, dec_t, dec_f, burinref0_EqInts_l0, Int.toNat_natCast, Nat.mul_one, hr3, hr4, w64, cadd1]
      exact hn hlt H' ⟨rfl, by rw [t1, t2, ht]⟩
    · have hne' : ¬ l = m := fun e => hne (by subst e; rfl)
      rw [dec_f hne'] at hQ
      generalize l[i] = z1 at *
      generalize m[i] = z2 at *
      simp -implicitDefEqProofs -dsimp (disch := omega) only [go_sem, dec_t, dec_f, burinref0_EqInts_l0, Int.toNat_natCast, Nat.mul_one, hr3, hr4, hne]
      rw [hx2]
      simp -implicitDefEqProofs -dsimp (disch := omega) only [go_sem, dec_t, dec_f, ]
      exact hQ
  · have : i = l.length := by omega
    rw [dec_t (take_eq hlen ht this)] at hQ
    subst this
    simp -implicitDefEqProofs -dsimp (disch := omega) only [go_sem, dec_t, dec_f, burinref0_EqInts_l0]
    rw [hx1]
    simp -implicitDefEqProofs -dsimp (disch := omega) only [go_sem, dec_t, dec_f, ]
    exact hQ
theorem eqFlags_ct (hp : HasSeg P) {x y : V} {l m : List Bool} (hx : Arr H x 1 l.length (bools l)) (hy : Arr H y 1 m.length (bools m)) (hl : l.length ≤ 140737488355328) (hQ : Q (.ret (.bool (decide (l = m)))) H) : Call P 165 [x, y] H Q := by
  obtain ⟨a1, c1, e1, rfl⟩ := hx.shape
  obtain ⟨a2, c2, e2, rfl⟩ := hy.shape
  refine call_of hp.h_burinref0_EqFlags rfl ?_
  by_cases hlen : l.length = m.length
  rotate_left
  · rw [dec_f (show ¬ l = m from fun e => hlen (by rw [e]))] at hQ
    simp -implicitDefEqProofs -dsimp (disch := omega) only [go_sem, dec_t, dec_f, ]
    exact hQ
  simp -implicitDefEqProofs -dsimp (disch := omega) only [go_sem, dec_t, dec_f, ]
  refine loop_cnt l.length (eqF' (.sl a1 l.length c1 e1) (.sl a2 m.length c2 e2)) (fun i H' => H' = H ∧ l.take i = m.take i) (fun i H' K hi hS hn hx1 hx2 => ?_) 0 H (Nat.zero_le _) ⟨rfl, by simp⟩
  obtain ⟨rfl, ht⟩ := hS
  unfold eqF'
  by_cases hlt : i < l.length
  · obtain ⟨b3, o3, c3, hv3, hr3⟩ := arr_bool hx hlt
    obtain ⟨b4, o4, c4, hv4, hr4⟩ := arr_bool hy (i := i) (by omega)
    cases hv3; cases hv4
    have t1 := List.take_succ_eq_append_getElem hlt
    have t2 := List.take_succ_eq_append_getElem (l := m) (i := i) (by omega)
    by_cases hne : l[i] = m[i]
    · rw [hne] at hr3 t1
      generalize m[i] = z at *
      cases z
      all_goals
        simp -implicitDefEqProofs -dsimp (disch := omega) only [go_sem, dec_t, dec_f, burinref0_EqFlags_l0, Int.toNat_natCast, Nat.mul_one, hr3, hr4, w64, cadd1, beq_self_eq_true]
        exact hn hlt H' ⟨rfl, by rw [t1, t2, ht]⟩
    · have hne' : ¬ l = m := fun e => hne (by subst e; rfl)
      rw [dec_f hne'] at hQ
      generalize l[i] = z1 at *
      generalize m[i] = z2 at *
      have hb : (z1 == z2) = false := by simpa using hne
      simp -implicitDefEqProofs -dsimp (disch := omega) only [go_sem, dec_t, dec_f, burinref0_EqFlags_l0, Int.toNat_natCast, Nat.mul_one, hr3, hr4, hb]
      rw [hx2]
      simp -implicitDefEqProofs -dsimp (disch := omega) only [go_sem, dec_t, dec_f, ]
      exact hQ
  · have : i = l.length := by omega
    rw [dec_t (take_eq hlen ht this)] at hQ
    subst this
    simp -implicitDefEqProofs -dsimp (disch := omega) only [go_sem, dec_t, dec_f, burinref0_EqFlags_l0]
    rw [hx1]
    simp -implicitDefEqProofs -dsimp (disch := omega) only [go_sem, dec_t, dec_f, ]
    exact hQ
def SgEq (s t : Sg) : Prop := s.num = t.num ∧ s.kind = t.kind ∧ s.page = t.page ∧ s.refs = t.refs ∧ s.keep = t.keep ∧ s.stay = t.stay ∧ s.data = t.data
instance (s t : Sg) : Decidable (SgEq s t) := by unfold SgEq; infer_instance
set_option maxHeartbeats 1000000 in
theorem eqSeg_ct (hp : HasSeg P) (he : P 26 = some burinref0_Eq) {u1 u2 u3 v1 v2 v3 : V} {s t : Sg} (hx : SgR H u1 u2 u3 s) (hy : SgR H v1 v2 v3 t) (hQ : ∀ H', Same (fun _ => False) H H' → Q (.ret (.bool (decide (SgEq s t)))) H') : Call P 166 [.agg (s.cells u1 u2 u3), .agg (t.cells v1 v2 v3)] H Q := by
  refine call_of hp.h_burinref0_EqSegment rfl ?_
  have g1 := ((Hs.start H).alloc (l := s.cells u1 u2 u3)).alloc (l := t.cells v1 v2 v3)
  rw [next_new] at g1
  have sm := (Hs.p2 g1).base
  have hx := hx.same sm
  have hy := hy.same sm
  have hQ := hQ _ sm
  obtain ⟨n1, k1, p1, r1, f1, st1, d1⟩ := s
  obtain ⟨n2, k2, p2, r2, f2, st2, d2⟩ := t
  have q1 := rd_s (Hs.p1 g1).cel
  have q2 := rd_s g1.cel
  have l1 := hx.ok.l1
  have l2 := hx.ok.l2
  have l3 := hx.ok.l3
  have hxr := hx.refs
  have hxk := hx.keep
  have hxd := hx.data
  have hyr := hy.refs
  have hyk := hy.keep
  have hyd := hy.data
  unfold Sg.cells at *
  dsimp only at *
  have fls : ¬ (n1 = n2 ∧ k1 = k2 ∧ p1 = p2 ∧ r1 = r2 ∧ f1 = f2 ∧ st1 = st2 ∧ d1 = d2) → Q (.ret (.bool false)) _ := fun k => by rw [dec_f (show ¬ SgEq ⟨n1, k1, p1, r1, f1, st1, d1⟩ ⟨n2, k2, p2, r2, f2, st2, d2⟩ from k)] at hQ; exact hQ
  simp -implicitDefEqProofs -dsimp (disch := omega) only [go_sem, dec_t, dec_f, q1, q2]
  by_cases z1 : n1 = n2
  rotate_left
  · rw [dec_f z1]
    simp -implicitDefEqProofs -dsimp (disch := omega) only [go_sem, dec_t, dec_f, ]
    exact fls fun k => z1 k.1
  by_cases z2 : k1 = k2
  rotate_left
  · rw [dec_t z1]
    simp -implicitDefEqProofs -dsimp (disch := omega) only [go_sem, dec_t, dec_f, q1, q2]
    exact fls fun k => z2 k.2.1
  by_cases z3 : p1 = p2
  rotate_left
  · rw [dec_t z1]
    simp -implicitDefEqProofs -dsimp (disch := omega) only [go_sem, dec_t, dec_f, q1, q2]
    exact fls fun k => z3 k.2.2.1
  rw [dec_t z1]
  simp -implicitDefEqProofs -dsimp (disch := omega) only [go_sem, dec_t, dec_f, q1, q2]
  refine eqInts_ct hp hxr hyr l1 ?_
  by_cases z4 : r1 = r2
  rotate_left
  · rw [dec_f z4]
    simp -implicitDefEqProofs -dsimp (disch := omega) only [go_sem, dec_t, dec_f, ]
    exact fls fun k => z4 k.2.2.2.1
  rw [dec_t z4]
  simp -implicitDefEqProofs -dsimp (disch := omega) only [go_sem, dec_t, dec_f, q1, q2]
  refine eqFlags_ct hp hxk hyk l2 ?_
  by_cases z5 : f1 = f2
  rotate_left
  · rw [dec_f z5]
    simp -implicitDefEqProofs -dsimp (disch := omega) only [go_sem, dec_t, dec_f, ]
    exact fls fun k => z5 k.2.2.2.2.1
  rw [dec_t z5]
  by_cases z6 : st1 = st2
  rotate_left
  · have hb : (st1 == st2) = false := by simpa using z6
    simp -implicitDefEqProofs -dsimp (disch := omega) only [go_sem, dec_t, dec_f, q1, q2, hb]
    exact fls fun k => z6 k.2.2.2.2.2.1
  have hb : (st1 == st2) = true := by simpa using z6
  simp -implicitDefEqProofs -dsimp (disch := omega) only [go_sem, dec_t, dec_f, q1, q2, hb]
  refine eq_ct he hxd hyd (by omega) ?_
  by_cases z7 : d1 = d2
  · rw [dec_t z7]
    simp -implicitDefEqProofs -dsimp (disch := omega) only [go_sem, dec_t, dec_f, ]
    rw [dec_t (show SgEq ⟨n1, k1, p1, r1, f1, st1, d1⟩ ⟨n2, k2, p2, r2, f2, st2, d2⟩ from ⟨z1, z2, z3, z4, z5, z6, z7⟩)] at hQ
    exact hQ
  · rw [dec_f z7]
    simp -implicitDefEqProofs -dsimp (disch := omega) only [go_sem, dec_t, dec_f, ]
    exact fls fun k => z7 k.2.2.2.2.2.2
end
end Go.Ab
namespace Go.Ab
def exb {α β : Type} (x : Except Int α) (f : α → Except Int β) : Except Int β := match x with
  | .ok a => f a
  | .error e => .error e
def pre {α : Type} (L : List α) (x : Except Int (List α × Nat)) : Except Int (List α × Nat) := exb x fun p => .ok (L ++ p.1, p.2)
section
variable {P : Prog} {H : Heap} {R : List As} {Q : Out → Heap → Prop}
structure HdX where
  i : Nat
  ah : Int
  a : Nat
  L : List Int
  v : V
def HdX.fr (b1 b2 b6 cnt : Nat) (x : HdX) : Fr := ⟨[(1, .ptr (some (b1, 0))), (2, .ptr (some (b2, 0))), (6, .ptr (some (b6, 0))), (8, .int .i64 (cnt : Nat)), (9, .int .i64 x.ah), (56, .int .i64 (cnt : Nat)), (57, .int .i64 (x.i : Nat))], []⟩
end
end Go.Ab
namespace Go.Ab
structure HkX where
  i : Nat
  a : Nat
  K : List Bool
  w : V
def HkX.fr (b1 b2 b6 cnt : Nat) (x : HkX) : Fr := ⟨[(1, .ptr (some (b1, 0))), (2, .ptr (some (b2, 0))), (6, .ptr (some (b6, 0))), (75, .int .i64 (cnt : Nat)), (76, .int .i64 (x.i : Nat))], []⟩
section
variable {P : Prog} {H : Heap} {R : List As} {Q : Out → Heap → Prop}
end
end Go.Ab
namespace Go.Ab
section
variable {bs : List Nat} (hs : ∀ b ∈ bs, b < 256)
include hs
end
theorem groups_lim {n k : Nat} (h : n < 128 ^ (k + 1)) : (groups n).length ≤ k + 1 := by
  rw [groups_len]
  have := cnt_le k (n / 128) (by rw [Nat.pow_succ] at h; omega)
  omega
theorem hdr_len {s : Sg} (hm : May s) : (hdr s).length ≤ 131136 := by
  have hk := hm.kind
  have hpg := hm.page
  have hnn := hm.n0
  have hn1 := hm.n1
  have hin := hm.incr
  have hml := may_len hm
  have hkl := hm.keep
  have hdl := hm.most
  have hpg2 : 0 ≤ s.page ∧ s.page ≤ 64 := by unfold pagedP at hpg; omega
  have g1 := groups_lim (n := s.num.toNat) (k := 2) (by omega)
  have g2 := groups_lim (n := s.page.toNat) (k := 0) (by omega)
  have g3 := groups_lim (n := s.refs.length) (k := 2) (by omega)
  have g4 := groups_lim (n := s.data.length) (k := 3) (by omega)
  have g5 : ∀ l : List Int, (∀ n ∈ l, (-1 : Int) < n ∧ n < s.num) → (l.flatMap fun n => groups n.toNat).length ≤ 3 * l.length := by
    intro l
    induction l with
    | nil => intro _; simp
    | cons n l ih =>
      intro h
      have h1 := h n (by simp)
      have g := groups_lim (n := n.toNat) (k := 2) (by omega)
      have := ih fun m hm => h m (by simp [hm])
      rw [List.flatMap_cons, List.length_append, List.length_cons]; omega
  have g6 := g5 s.refs (incr_all hin)
  have g7 := pack_length (s.keep ++ [s.stay])
  rw [List.length_append, List.length_singleton] at g7
  unfold hdr hdA
  simp only [List.length_append, List.length_singleton]
  omega
end Go.Ab
namespace Go.Ab
open Go.RowKit (Below)
/-- What an argument is. -/
inductive TD where
  | bool
  | int (k : IntKind)
  | flt (k : FloatKind)
  | str
  | agg (fs : List TD)
  | sl (bytes : Nat) (e : TD)
  | arr (n : Nat) (e : TD)

mutual
def TD.size : TD → Nat
  | .bool => 1
  | .int _ => 1
  | .flt _ => 1
  | .str => 1
  | .agg fs => TD.sizes fs
  | .sl _ _ => 1
  | .arr n e => n * e.size
def TD.sizes : List TD → Nat
  | [] => 0
  | f :: r => f.size + TD.sizes r
end
mutual
def TD.Ty : TD → Type
  | .bool => Bool
  | .int _ => Int
  | .flt _ => Nat
  | .str => ByteArray
  | .agg fs => TD.Tys fs
  | .sl _ e => List e.Ty
  | .arr _ e => List e.Ty
def TD.Tys : List TD → Type
  | [] => Unit
  | f :: r => f.Ty × TD.Tys r
end
/-- A row of cells, element by element. -/
def Split {α : Type} (R : List V → α → Prop) : List V → List α → Prop
  | L, [] => L = []
  | L, x :: xs => ∃ a b, L = a ++ b ∧ R a x ∧ Split R b xs

theorem Split.mono {α : Type} {R S : List V → α → Prop} (h : ∀ a x, R a x → S a x) : ∀ (xs : List α) (L : List V), Split R L xs → Split S L xs
  | [], _, r => r
  | _ :: xs, _, ⟨a, b, e, r, t⟩ => ⟨a, b, e, h _ _ r, Split.mono h xs b t⟩

theorem Split.snoc {α : Type} {R : List V → α → Prop} : ∀ {xs : List α} {L a : List V} {x : α}, Split R L xs → R a x → Split R (L ++ a) (xs ++ [x])
  | [], L, a, x, h, r => by rw [show L = [] from h]; exact ⟨a, [], by simp, r, rfl⟩
  | _ :: xs, _, a, x, ⟨p, q, e, r', t⟩, r => ⟨p, q ++ a, by rw [e, List.append_assoc], r', Split.snoc t r⟩

def inK (k : IntKind) (n : Int) : Prop := k.min ≤ n ∧ n ≤ k.max

mutual
/-- These cells read as that datum. -/
def Is (H : Heap) : (D : TD) → List V → D.Ty → Prop
  | .bool, cs, b => cs = [.bool b]
  | .int k, cs, n => cs = [.int k n] ∧ inK k n
  | .flt k, cs, n => cs = [.flt k n] ∧ (Lit.float k n).wf = true
  | .str, cs, s => cs = [.str s] ∧ s.size ≤ 140737488351232
  | .agg fs, cs, x => IsS H fs cs x
  | .sl bytes e, cs, xs => ∃ v L, cs = [v] ∧ Arr H v e.size (List.length (α := e.Ty) xs) L ∧ Split (Is H e) L xs ∧ List.length (α := e.Ty) xs * bytes ≤ 140737488351232
  | .arr n e, cs, xs => Split (Is H e) cs xs ∧ List.length (α := e.Ty) xs = n
def IsS (H : Heap) : (fs : List TD) → List V → TD.Tys fs → Prop
  | [], cs, _ => cs = []
  | f :: r, cs, x => ∃ a b, cs = a ++ b ∧ Is H f a x.1 ∧ IsS H r b x.2
end
mutual
theorem Is.same {H H' : Heap} (s : Same (fun _ => False) H H') : ∀ (D : TD) (cs : List V) (x : D.Ty), Is H D cs x → Is H' D cs x
  | .bool, _, _, h => h
  | .int _, _, _, h => h
  | .flt _, _, _, h => h
  | .str, _, _, h => h
  | .agg fs, cs, x, h => IsS.same s fs cs x h
  | .sl _ e, cs, xs, ⟨v, L, h1, h2, h3, h4⟩ => ⟨v, L, h1, h2.same s (fun _ _ h => h), Split.mono (fun a x h => Is.same s e a x h) _ _ h3, h4⟩
  | .arr _ e, cs, xs, ⟨h1, h2⟩ => ⟨Split.mono (fun a x h => Is.same s e a x h) _ _ h1, h2⟩
theorem IsS.same {H H' : Heap} (s : Same (fun _ => False) H H') : ∀ (fs : List TD) (cs : List V) (x : TD.Tys fs), IsS H fs cs x → IsS H' fs cs x
  | [], _, _, h => h
  | f :: r, cs, x, ⟨a, b, h1, h2, h3⟩ => ⟨a, b, h1, Is.same s f a x.1 h2, IsS.same s r b x.2 h3⟩
end
mutual
def ckTD (P : Program) : TD → TypeId → Bool
  | .bool, t => match P.underlying t with | some .bool => true | _ => false
  | .int k, t => match P.underlying t with | some (.int k') => decide (k = k') | _ => false
  | .flt k, t => match P.underlying t with | some (.float k') => decide (k = k') | _ => false
  | .str, t => match P.underlying t with | some .string => true | _ => false
  | .agg fs, t => match P.underlying t with | some (.struct fields) => ckTDs P fs fields.toList 0 && P.cellsOf t == TD.sizes fs | _ => false
  | .sl bytes e, t => match P.underlying t with | some (.slice u) => ckTD P e u && P.cellsOf u == e.size && P.bytesOf u == bytes && decide (0 < e.size) | _ => false
  | .arr n e, t => match P.underlying t with | some (.array n' u) => decide (n' = n) && ckTD P e u && P.cellsOf u == e.size && P.cellsOf t == n * e.size | _ => false
def ckTDs (P : Program) : List TD → List Field → Nat → Bool
  | [], [], _ => true
  | D :: r, f :: fs, o => f.offset == o && ckTD P D f.type && P.cellsOf f.type == D.size && ckTDs P r fs (o + D.size)
  | _, _, _ => false
end
def RoH (H : Heap) : Prop := ∀ b, b < H.next → RO H b

section
variable {L : Lk} {P : Program} {W : World} {T : Type} {enc : TypeId × Value → T}
/-- What is found of a datum that was read. -/
def Op1 (L : Lk) (W : World) (ι : Im) (H : Heap) (D : TD) (cs : List Value) : Prop :=
  ∃ ι' H' vs, ∃ x : D.Ty, Sim L ι' H' W ∧ ILe ι ι' ∧ Same (fun _ => False) H H' ∧ RoH H' ∧ RelL L ι' vs cs ∧ Is H' D vs x

/-- A block that is only read is laid. -/
theorem Sim.ro {ι : Im} {H : Heap} {l : List V} {arr : Array Value} {ty : TypeId} {fz : Nat × Nat} {c p : Nat} (s : Sim L ι H W) (hro : RoH H) (hb : W.heap[c]? = some (.cells arr ty fz)) (hp : p + l.length ≤ arr.size)
    (hr : ∀ (i : Nat) (v : V), l[i]? = some v → ∃ v', arr[p + i]? = some v' ∧ Rel L ι v v') :
    Sim L (upd ι H.next c p arr.size) (H.new (.cells l false)) W ∧ ILe ι (upd ι H.next c p arr.size) ∧ RoH (H.new (.cells l false)) := by
  have hle : ILe ι (upd ι H.next c p arr.size) := fun b x e => by
    have : b ≠ H.next := fun hb => by rw [hb, s.nx _ (Nat.le_refl _)] at e; cases e
    unfold Ab.upd; rw [if_neg this]; exact e
  have hget : ∀ x, (H.new (.cells l false)).get x = if x = H.next then .cells l false else H.get x := fun _ => rfl
  have hnew : upd ι H.next c p arr.size H.next = some (c, p, arr.size) := by unfold Ab.upd; rw [if_pos rfl]
  have hold : ∀ x y, x ≠ H.next → upd ι H.next c p arr.size x = some y → ι x = some y := fun x y hx e => by
    unfold Ab.upd at e; rw [if_neg hx] at e; exact e
  have hro' : RoH (H.new (.cells l false)) := fun b hb => by
    have hn : (H.new (.cells l false)).next = H.next + 1 := rfl
    by_cases h : b = H.next
    · exact ⟨l, by rw [hget, if_pos h]⟩
    · obtain ⟨l', e⟩ := hro b (by omega); exact ⟨l', by rw [hget, if_neg h]; exact e⟩
  have low : ∀ b x, upd ι H.next c p arr.size b = some x → b < H.next + 1 := fun b x e => by
    rcases Nat.lt_or_ge b (H.next + 1) with h | h
    · exact h
    · have := hold b x (by omega) e; rw [s.nx b (by omega)] at this; cases this
  refine ⟨⟨fun b hb => ?_, fun b hb => ?_, fun b c' p' z' e => ?_, fun b c' p' z' e => ?_, fun b b' c' p' z' p2 z2 e _ _ _ hn => absurd (hro' b (low b _ e)) hn⟩, hle, hro'⟩
  · have hn : (H.new (.cells l false)).next = H.next + 1 := rfl
    rw [hget, if_neg (by omega)]; exact s.dn b (by omega)
  · have hn : (H.new (.cells l false)).next = H.next + 1 := rfl
    unfold Ab.upd; rw [if_neg (by omega)]; exact s.nx b (by omega)
  · by_cases h : b = H.next
    · subst h; rw [hnew] at e; cases e
      exact (Array.getElem?_eq_some_iff.1 hb).1
    · exact s.lt b _ _ _ (hold b _ h e)
  · by_cases h : b = H.next
    · subst h; rw [hnew] at e; cases e
      rw [hget, if_pos rfl]
      exact ⟨arr, ty, fz, hb, rfl, hp, (fun h => by cases h), fun i v hv => let ⟨v', h1, h2⟩ := hr i v hv; ⟨v', h1, Rel.mono hle _ _ h2⟩⟩
    · rw [hget, if_neg h]
      exact (s.ok b _ _ _ (hold b _ h e)).mono hle

theorem addr_add_add (a : Addr) (i j : Nat) : (a.add i).add j = a.add (i + j) := by
  unfold Addr.add
  by_cases hi : i = 0
  · subst hi; simp
  · by_cases hj : j = 0
    · subst hj; simp [hi]
    · simp [hi, hj, Nat.add_assoc]

theorem cells_get {a : Addr} {n : Nat} {cs : List Value} (h : W.cells? 0 a n = some cs) : cs.length = n ∧ ∀ i, i < n → W.cell? (a.add i) = cs[i]? := by
  unfold World.cells? at h
  rw [if_pos (Nat.zero_le _)] at h
  have hl := mapM_some_length h
  refine ⟨by simpa using hl, fun i hi => ?_⟩
  exact mapM_some_get h i i (by simp [hi])

theorem openElems {e : TD} {n len : Nat} {a : Addr} {rd : List Value → Option (DataW T × List MemPlace)} {elems : List (DataW T × List MemPlace)}
    (ih : ∀ (cs : List Value) (d : DataW T) (ps : List MemPlace), rd cs = some (d, ps) → d ∈ elems.map (·.1) → ∀ ι H, Sim L ι H W → RoH H → Op1 L W ι H e cs)
    (hel : ∀ i, i < len → (W.cells? 0 (a.add (i * n)) n).bind rd = elems[i]?) (hlen : elems.length = len) {ι : Im} {H : Heap} (s : Sim L ι H W) (hro : RoH H) :
    ∀ k, k ≤ len → ∃ ι' H' vs ws, ∃ xs : List e.Ty, Sim L ι' H' W ∧ ILe ι ι' ∧ Same (fun _ => False) H H' ∧ RoH H' ∧ RelL L ι' vs ws ∧ ws.length = k * n ∧ (∀ i, i < k * n → W.cell? (a.add i) = ws[i]?) ∧ xs.length = k ∧ Split (Is H' e) vs xs
  | 0, _ => ⟨ι, H, [], [], [], s, ILe.refl _, Same.refl _ _, hro, rfl, by simp, fun i hi => by simp at hi, rfl, rfl⟩
  | k + 1, hk => by
    obtain ⟨ι1, H1, vs, ws, xs, s1, l1, m1, r1, q1, q2, q3, q4, q5⟩ := openElems ih hel hlen s hro k (by omega)
    have h := hel k (by omega)
    obtain ⟨y, hy⟩ : ∃ y, elems[k]? = some y := ⟨elems[k]'(by omega), by simp⟩
    rw [hy] at h
    simp only [Option.bind_eq_some_iff] at h
    obtain ⟨cs, hc, hr⟩ := h
    obtain ⟨c1, c2⟩ := cells_get hc
    obtain ⟨ι2, H2, v2, x2, s2, l2, m2, r2, p1, p2⟩ := ih cs y.1 y.2 hr (List.mem_map.2 ⟨y, List.mem_of_getElem? hy, rfl⟩) ι1 H1 s1 r1
    refine ⟨ι2, H2, vs ++ v2, ws ++ cs, xs ++ [x2], s2, l1.trans l2, m1.trans m2 fun _ _ h => h, r2, (RelL.mono l2 _ _ q1).append p1, by rw [List.length_append, q2, c1, Nat.add_mul, Nat.one_mul], fun i hi => ?_, by simp [q4], ?_⟩
    · rw [Nat.add_mul, Nat.one_mul] at hi
      by_cases h : i < k * n
      · rw [List.getElem?_append_left (by omega)]; exact q3 i h
      · rw [List.getElem?_append_right (by omega), q2, ← c2 (i - k * n) (by omega), addr_add_add]; congr 2; omega
    · exact Split.snoc (Split.mono (fun a x h => Is.same m2 e a x h) _ _ q5) p2

theorem openParts {e : TD} {z n : Nat} {cs : List Value} {rd : List Value → Option (DataW T × List MemPlace)} {elems : List (DataW T × List MemPlace)}
    (ih : ∀ (cs : List Value) (d : DataW T) (ps : List MemPlace), rd cs = some (d, ps) → d ∈ elems.map (·.1) → ∀ ι H, Sim L ι H W → RoH H → Op1 L W ι H e cs)
    (hel : ∀ i, i < n → rd ((cs.drop (i * z)).take z) = elems[i]?) (hlen : elems.length = n) {ι : Im} {H : Heap} (s : Sim L ι H W) (hro : RoH H) :
    ∀ k, k ≤ n → ∃ ι' H' vs, ∃ xs : List e.Ty, Sim L ι' H' W ∧ ILe ι ι' ∧ Same (fun _ => False) H H' ∧ RoH H' ∧ RelL L ι' vs (cs.take (k * z)) ∧ xs.length = k ∧ Split (Is H' e) vs xs
  | 0, _ => ⟨ι, H, [], [], s, ILe.refl _, Same.refl _ _, hro, by rw [Nat.zero_mul, List.take_zero]; rfl, rfl, rfl⟩
  | k + 1, hk => by
    obtain ⟨ι1, H1, vs, xs, s1, l1, m1, r1, q1, q4, q5⟩ := openParts ih hel hlen s hro k (by omega)
    have h := hel k (by omega)
    obtain ⟨y, hy⟩ : ∃ y, elems[k]? = some y := ⟨elems[k]'(by omega), by simp⟩
    rw [hy] at h
    obtain ⟨ι2, H2, v2, x2, s2, l2, m2, r2, p1, p2⟩ := ih _ y.1 y.2 h (List.mem_map.2 ⟨y, List.mem_of_getElem? hy, rfl⟩) ι1 H1 s1 r1
    refine ⟨ι2, H2, vs ++ v2, xs ++ [x2], s2, l1.trans l2, m1.trans m2 fun _ _ h => h, r2, ?_, by simp [q4], Split.snoc (Split.mono (fun a x h => Is.same m2 e a x h) _ _ q5) p2⟩
    rw [Nat.add_mul, Nat.one_mul, List.take_add]
    exact (RelL.mono l2 _ _ q1).append p1

theorem all_append {α : Type} {p : α → Bool} {l m : List α} (h : (l ++ m).all p = true) : l.all p = true ∧ m.all p = true := by
  simpa [List.all_append] using h

theorem weightsAll_mem {e : TypeId} {d : DataW T} : ∀ {l : List (DataW T)}, (DataW.weightsAll P e l).all (· ≤ reachBytes) = true → d ∈ l → (d.weights P e).all (· ≤ reachBytes) = true
  | [], _, h => by cases h
  | x :: r, h, hm => by
    rw [DataW.weightsAll] at h
    obtain ⟨h1, h2⟩ := all_append h
    rcases List.mem_cons.1 hm with rfl | hm
    · exact h1
    · exact weightsAll_mem h2 hm

mutual
theorem openTD : ∀ (D : TD) (t : TypeId) (fuel : Nat) (cs : List Value) (d : DataW T) (ps : List MemPlace), ckTD P D t = true → DataW.trod enc P W 0 (fun _ => true) true fuel t cs = some (d, ps) →
    (d.weights P t).all (· ≤ reachBytes) = true → ∀ ι H, Sim L ι H W → RoH H → Op1 L W ι H D cs
  | .bool, t, fuel, cs, d, ps, hc, h, hw, ι, H, s, hro => by
    unfold ckTD at hc; split at hc
    · rename_i hu
      obtain ⟨b, rfl, _⟩ := DataW.trod_bool hu h
      exact ⟨ι, H, [.bool b], b, s, ILe.refl _, Same.refl _ _, hro, ⟨_, _, rfl, rfl, rfl⟩, rfl⟩
    · cases hc
  | .int k, t, fuel, cs, d, ps, hc, h, hw, ι, H, s, hro => by
    unfold ckTD at hc; split at hc
    · rename_i k' hu
      obtain rfl := of_decide_eq_true hc
      obtain ⟨n, rfl, _, hwf⟩ := DataW.trod_int hu h
      refine ⟨ι, H, [.int k n], n, s, ILe.refl _, Same.refl _ _, hro, ⟨_, _, rfl, rfl, rfl⟩, rfl, ?_⟩
      simpa [Lit.wf, inK] using hwf
    · cases hc
  | .flt k, t, fuel, cs, d, ps, hc, h, hw, ι, H, s, hro => by
    unfold ckTD at hc; split at hc
    · rename_i k' hu
      obtain rfl := of_decide_eq_true hc
      cases fuel with
      | zero => simp [DataW.trod] at h
      | succ n =>
        unfold DataW.trod at h
        rw [hu] at h
        split at h <;> simp_all
        obtain ⟨⟨rfl, hwf⟩, _⟩ := h
        exact ⟨ι, H, [.flt _ _], _, s, ILe.refl _, Same.refl _ _, hro, ⟨_, _, rfl, rfl, rfl⟩, rfl, hwf⟩
    · cases hc
  | .str, t, fuel, cs, d, ps, hc, h, hw, ι, H, s, hro => by
    unfold ckTD at hc; split at hc
    · rename_i hu
      obtain ⟨b, rfl, e, _⟩ := DataW.trod_string hu h
      cases e
      refine ⟨ι, H, [.str b], b, s, ILe.refl _, Same.refl _ _, hro, ⟨_, _, rfl, rfl, rfl⟩, rfl, ?_⟩
      simp [DataW.weights, reachBytes] at hw
      exact of_decide_eq_true hw
    · cases hc
  | .agg fs, t, fuel, cs, d, ps, hc, h, hw, ι, H, s, hro => by
    unfold ckTD at hc; split at hc
    · rename_i fields hu
      simp only [Bool.and_eq_true, beq_iff_eq] at hc
      obtain ⟨xs, n, rfl, e, hl, hxs, hf⟩ := DataW.trod_struct hu h
      cases e
      rw [DataW.weights, hu] at hw
      obtain ⟨ι', H', vs, x, h1, h2, h3, h4, h5, h6⟩ := openTDs fs fields.toList 0 n cs xs hc.1 (fun i f hi => hf i f (by simpa using hi)) (by simpa using hxs) (by rw [hl, hc.2]; omega) hw ι H s hro
      exact ⟨ι', H', vs, x, h1, h2, h3, h4, h5, h6⟩
    · cases hc
  | .arr n e, t, fuel, cs, d, ps, hc, h, hw, ι, H, s, hro => by
    unfold ckTD at hc; split at hc
    · rename_i n' u hu
      simp only [Bool.and_eq_true, beq_iff_eq, decide_eq_true_eq] at hc
      obtain ⟨⟨⟨rfl, hce⟩, hsz⟩, hct⟩ := hc
      obtain ⟨xs, m, rfl, e0, hl, hxs, hf⟩ := DataW.trod_array hu h
      cases e0
      rw [DataW.weights, hu] at hw
      obtain ⟨ι1, H1, vs, ys, s1, l1, m1, r1, q1, q2, q3⟩ := openParts (L := L) (e := e) (cs := cs) (fun cs d ps hr hm ι H s hro => openTD e u m cs d ps hce hr (weightsAll_mem hw hm) ι H s hro) hf hxs s hro n' (Nat.le_refl _)
      rw [List.take_of_length_le (by rw [hl, hct, hsz]; exact Nat.le_refl _)] at q1
      exact ⟨ι1, H1, vs, ys, s1, l1, m1, r1, q1, q3, q2⟩
    · cases hc
  | .sl bytes e, t, fuel, cs, d, ps, hc, h, hw, ι, H, s, hro => by
    unfold ckTD at hc; split at hc
    · rename_i u hu
      simp only [Bool.and_eq_true, beq_iff_eq, decide_eq_true_eq] at hc
      obtain ⟨⟨⟨hce, hsz⟩, hby⟩, hpos⟩ := hc
      rcases DataW.trod_slice hu h with ⟨rfl, e0⟩ | ⟨a, len, cap, elems, rest, n, rfl, rfl, e0, _, hlc, _, hlen, hel, hsp, _⟩
      · exact ⟨ι, H, [.sl none 0 0 0], [], s, ILe.refl _, Same.refl _ _, hro, ⟨_, _, rfl, ⟨rfl, rfl, rfl⟩, rfl⟩, _, [], rfl, Or.inl ⟨rfl, rfl, rfl⟩, rfl, by simp⟩
      · cases e0
        rw [DataW.weights, hu] at hw
        simp only [List.all_cons, Bool.and_eq_true, decide_eq_true_eq] at hw
        obtain ⟨hw1, hw2⟩ := hw
        obtain ⟨hw3, _⟩ := all_append hw2
        rw [hsz] at hel hsp
        obtain ⟨ι1, H1, vs, ws, xs, s1, l1, m1, r1, q1, q2, q3, q4, q5⟩ := openElems (L := L) (e := e) (fun cs d ps hr hm ι H s hro => openTD e u n cs d ps hce hr (weightsAll_mem hw3 hm) ι H s hro) hel hlen s hro len (Nat.le_refl _)
        have hbytes : xs.length * bytes ≤ 140737488351232 := by
          simp only [List.length_map] at hw1
          rw [hby, hlen] at hw1
          have : len * bytes ≤ (len + rest.length) * bytes := Nat.mul_le_mul_right _ (by omega)
          rw [q4]; unfold reachBytes at hw1; omega
        rcases Nat.eq_zero_or_pos cap with h0 | h0
        · have hl0 : len = 0 := by omega
          subst hl0
          obtain rfl : ws = [] := List.eq_nil_of_length_eq_zero (by simpa using q2)
          obtain rfl : vs = [] := List.eq_nil_of_length_eq_zero (by have := q1.length; simpa using this)
          obtain rfl : xs = [] := List.eq_nil_of_length_eq_zero q4
          subst h0
          obtain ⟨g1, g2⟩ := s1.ghost (.cells [] false)
          refine ⟨ι1, H1.new (.cells [] false), [.sl (some (H1.next, 0)) 0 0 e.size], [], g1, l1, m1.trans (Same.new _ _ _) fun _ _ h => h, fun b hb => ?_, ⟨_, _, rfl, ⟨Nat.le_refl _, a, 0, rfl, Nat.le_refl _, fun h => by omega⟩, rfl⟩, _, [], rfl, Or.inr ⟨H1.next, 0, 0, [], false, rfl, ?_, by simp, by simp, Nat.le_refl _, by simp [next_new]⟩, rfl, by simp⟩
          · have hn : (H1.new (.cells [] false)).next = H1.next + 1 := rfl
            by_cases h : b = H1.next
            · exact ⟨[], by rw [get_new, if_pos h]⟩
            · obtain ⟨l', e⟩ := r1 b (by omega); exact ⟨l', by rw [get_new, if_neg h]; exact e⟩
          · rw [get_new, if_pos rfl]
        · -- a cell at its last element
          have hlast : ∃ v, W.cell? (a.add (cap * e.size - 1)) = some v := by
            have hce1 : cap * e.size = (cap - 1) * e.size + e.size := by
              conv => lhs; rw [show cap = (cap - 1) + 1 by omega]
              rw [Nat.add_mul, Nat.one_mul]
            have key : ∀ i y, (W.cells? 0 (a.add (i * e.size)) e.size).bind (DataW.trod enc P W 0 (fun _ => true) true n u) = some y → ∃ v, W.cell? (a.add (i * e.size + (e.size - 1))) = some v := by
              intro i y hy
              simp only [Option.bind_eq_some_iff] at hy
              obtain ⟨cs, hc, _⟩ := hy
              obtain ⟨c1, c2⟩ := cells_get hc
              rw [← addr_add_add, c2 (e.size - 1) (by omega)]
              exact ⟨cs[e.size - 1]'(by omega), by simp⟩
            rw [show cap * e.size - 1 = (cap - 1) * e.size + (e.size - 1) by omega]
            by_cases hx : cap - 1 < len
            · exact key (cap - 1) (elems[cap - 1]'(by omega)) (by rw [hel _ hx]; simp)
            · obtain ⟨t1, t2⟩ := hsp rfl
              have := t2 (cap - 1 - len) (by omega)
              rw [show len + (cap - 1 - len) = cap - 1 by omega] at this
              exact key (cap - 1) (rest[cap - 1 - len]'(by omega)) (by rw [this]; simp)
          obtain ⟨vl, hvl⟩ := hlast
          have hblk : ∃ arr ty fz, W.heap[a.block]? = some (.cells arr ty fz) ∧ a.spot = none ∧ a.off + cap * e.size ≤ arr.size := by
            have hb : (a.add (cap * e.size - 1)).block = a.block := by unfold Addr.add; split <;> rfl
            have ho : (a.add (cap * e.size - 1)).off = a.off + (cap * e.size - 1) := by unfold Addr.add; split <;> simp_all
            have hcpos : 0 < cap * e.size := Nat.mul_pos h0 hpos
            have h00 : ∃ v0, W.cell? a = some v0 := by
              have key : ∀ i y, (W.cells? 0 (a.add (i * e.size)) e.size).bind (DataW.trod enc P W 0 (fun _ => true) true n u) = some y → i = 0 → ∃ v, W.cell? a = some v := by
                intro i y hy hi
                subst hi
                simp only [Option.bind_eq_some_iff] at hy
                obtain ⟨cs, hc, _⟩ := hy
                obtain ⟨c1, c2⟩ := cells_get hc
                have := c2 0 hpos
                rw [addr_add_add] at this
                simp only [Nat.zero_mul, Nat.add_zero, Addr.add, if_true] at this
                exact ⟨cs[0]'(by omega), by rw [this]; simp⟩
              by_cases hx : 0 < len
              · exact key 0 (elems[0]'(by omega)) (by rw [hel _ hx]; simp) rfl
              · obtain ⟨t1, t2⟩ := hsp rfl
                have := t2 0 (by omega)
                exact key (len + 0) (rest[0]'(by omega)) (by rw [this]; simp) (by omega)
            obtain ⟨v0, h00⟩ := h00
            unfold World.cell? at hvl h00
            rw [hb] at hvl
            cases hg : W.heap[a.block]? with
            | none => rw [hg] at h00; cases h00
            | some o =>
              rw [hg] at h00 hvl
              cases o with
              | cells arr ty fz =>
                dsimp only at h00 hvl
                split at h00
                · cases h00
                · rename_i hs
                  split at hvl
                  · cases hvl
                  · rw [ho] at hvl
                    have hlt := (Array.getElem?_eq_some_iff.1 hvl).1
                    refine ⟨arr, ty, fz, rfl, ?_, by omega⟩
                    cases hsp : a.spot with
                    | none => rfl
                    | some x => rw [hsp] at hs; simp at hs
              | _ => cases h00
          obtain ⟨arr, ty, fz, hg, hspot, hsize⟩ := hblk
          obtain ⟨ab, ao, asp⟩ := a
          dsimp only at hspot hg hsize
          subst hspot
          have hcell : ∀ i, W.cell? (Addr.add ⟨ab, ao, none⟩ i) = arr[ao + i]? := by
            intro i
            have : (Addr.add ⟨ab, ao, none⟩ i) = ⟨ab, ao + i, none⟩ := by unfold Addr.add; split <;> simp_all
            rw [this]; unfold World.cell?; rw [hg]; rfl
          have hvl : vs.length = len * e.size := by rw [q1.length, q2]
          have hmul : len * e.size ≤ cap * e.size := Nat.mul_le_mul_right _ hlc
          obtain ⟨g1, g2, g3⟩ := s1.ro (l := vs) (p := ao) r1 hg (by omega) (fun i v hv => by
            obtain ⟨y, hy, hry⟩ := q1.get hv
            have hi : i < len * e.size := by rw [← hvl]; exact (List.getElem?_eq_some_iff.1 hv).1
            exact ⟨y, by rw [← hcell, q3 i hi]; exact hy, hry⟩)
          refine ⟨_, _, [.sl (some (H1.next, 0)) len len e.size], xs, g1, l1.trans g2, m1.trans (Same.new _ _ _) fun _ _ h => h, g3, ⟨_, _, rfl, ⟨Nat.le_refl _, ⟨ab, ao, none⟩, cap, rfl, hlc, fun _ => ⟨ab, ao, arr.size, ao, by unfold Ab.upd; rw [if_pos rfl], rfl, by omega, fun _ => by omega⟩⟩, rfl⟩, _, vs, rfl, Or.inr ⟨H1.next, 0, len, vs, false, by rw [q4], by rw [get_new, if_pos rfl], by rw [hvl, q4]; omega, by rw [q4, ← hvl]; simp, by omega, by simp [next_new]⟩, Split.mono (fun a x h => Is.same (Same.new _ _ _) e a x h) _ _ q5, hbytes⟩
    · cases hc
theorem openTDs : ∀ (fs : List TD) (fields : List Field) (o n : Nat) (cs : List Value) (xs : List (DataW T × List MemPlace)), ckTDs P fs fields o = true →
    (∀ (i : Nat) (f : Field), fields[i]? = some f → DataW.trod enc P W 0 (fun _ => true) true n f.type ((cs.drop f.offset).take (P.cellsOf f.type)) = xs[i]?) → xs.length = fields.length → cs.length = o + TD.sizes fs →
    (DataW.weightsEach P (fields.map (·.type)) (xs.map (·.1))).all (· ≤ reachBytes) = true → ∀ ι H, Sim L ι H W → RoH H →
    ∃ ι' H' vs, ∃ x : TD.Tys fs, Sim L ι' H' W ∧ ILe ι ι' ∧ Same (fun _ => False) H H' ∧ RoH H' ∧ RelL L ι' vs (cs.drop o) ∧ IsS H' fs vs x
  | [], fields, o, n, cs, xs, hc, hf, hx, hl, hw, ι, H, s, hro => by
    refine ⟨ι, H, [], (), s, ILe.refl _, Same.refl _ _, hro, ?_, rfl⟩
    rw [List.drop_eq_nil_of_le (by simp only [TD.sizes] at hl; omega)]; rfl
  | D :: r, [], o, n, cs, xs, hc, hf, hx, hl, hw, ι, H, s, hro => by cases hc
  | D :: r, f :: fields, o, n, cs, xs, hc, hf, hx, hl, hw, ι, H, s, hro => by
    simp only [ckTDs, Bool.and_eq_true, beq_iff_eq] at hc
    obtain ⟨⟨⟨ho, hck⟩, hsz⟩, hrest⟩ := hc
    cases xs with
    | nil => simp at hx
    | cons x xs =>
      simp only [TD.sizes] at hl
      simp only [List.map_cons, DataW.weightsEach] at hw
      obtain ⟨hw1, hw2⟩ := all_append hw
      have h0 := hf 0 f rfl
      rw [ho, hsz] at h0
      obtain ⟨ι1, H1, v1, x1, s1, l1, m1, r1, p1, p2⟩ := openTD D f.type n ((cs.drop o).take D.size) x.1 x.2 hck h0 hw1 ι H s hro
      obtain ⟨ι2, H2, v2, x2, s2, l2, m2, r2, p3, p4⟩ := openTDs r fields (o + D.size) n cs xs hrest (fun i f hi => hf (i + 1) f hi) (by simpa using hx) (by omega) hw2 ι1 H1 s1 r1
      refine ⟨ι2, H2, v1 ++ v2, (x1, x2), s2, l1.trans l2, m1.trans m2 fun _ _ h => h, r2, ?_, v1, v2, rfl, Is.same m2 D _ _ p2, p4⟩
      have := (RelL.mono l2 _ _ p1).append p3
      rwa [← List.drop_drop, List.take_append_drop] at this
end
/-- The empty heap. -/
def H0 : Heap := ⟨0, fun _ => .dead⟩
theorem sim0 : Sim L (fun _ => none) H0 W := ⟨fun _ _ => rfl, fun _ _ => rfl, (fun _ _ _ _ h => by cases h), (fun _ _ _ _ h => by cases h), (fun _ _ _ _ _ _ _ _ h => by cases h)⟩
theorem ro0 : RoH H0 := fun _ h => by cases h

/-- The value of an argument. -/
def argV : TD → List V → V
  | .agg _, cs => .agg cs
  | .arr _ _, cs => .agg cs
  | _, [v] => v
  | _, _ => .un

/-- How an argument lies before it is read. -/
def okArg : TD → Value → Prop
  | .agg _, v => ∃ cs, v = .agg cs
  | .arr _ _, v => ∃ cs, v = .agg cs
  | _, v => v.cells = #[v]

/-- A law's call: it answers true and leaves all that was. -/
theorem law_calls {pr : Prog} (k : Linked L P pr) {g : Nat} (hd : L.dom g = true) (D : TD) {t : TypeId} {v : Value} {d : DataW T} {ps : List MemPlace} (hck : ckTD P D t = true)
    (h : DataW.Trod enc P W 0 (fun _ => true) true t v d ps) (hok : okArg D v) (hw : (d.weights P t).all (· ≤ reachBytes) = true)
    (hcall : ∀ H cs, ∀ x : D.Ty, Is H D cs x → Call pr g [argV D cs] H fun o _ => o = .ret (.bool true)) :
    Calls P (L.φ g) #[v] W fun e W' => e = .returned (.bool true) ∧ Below W.heap.size W W' := by
  obtain ⟨fuel, hf⟩ := h
  obtain ⟨ι, H, vs, x, s, _, _, hro, hr, hi⟩ := openTD (L := L) D t fuel v.cells.toList d ps hck hf hw _ _ sim0 ro0
  have hrel : RelL L ι [argV D vs] (#[v] : Array Value).toList := by
    refine ⟨v, [], rfl, ?_, rfl⟩
    have single : v.cells = #[v] → argV D vs = argV .bool vs → Rel L ι (argV D vs) v := fun e e2 => by
      rw [e] at hr
      cases vs with
      | nil => have := hr.length; simp at this
      | cons a b =>
        obtain ⟨y, q, e1, h1, h2⟩ := hr
        cases e1
        obtain rfl : b = [] := by cases b with
          | nil => rfl
          | cons _ _ => have := h2.length; simp at this
        rw [e2]; exact h1
    cases D with
    | agg fs => obtain ⟨cs, rfl⟩ := hok; exact ⟨cs, rfl, hr⟩
    | arr n e => obtain ⟨cs, rfl⟩ := hok; exact ⟨cs, rfl, hr⟩
    | bool => exact single hok rfl
    | int k => exact single hok (by cases vs with | nil => rfl | cons a b => cases b <;> rfl)
    | flt k => exact single hok (by cases vs with | nil => rfl | cons a b => cases b <;> rfl)
    | str => exact single hok (by cases vs with | nil => rfl | cons a b => cases b <;> rfl)
    | sl _ e => exact single hok (by cases vs with | nil => rfl | cons a b => cases b <;> rfl)
  refine (((call_sound k (hcall H vs x hi)).1 hd ι W #[v] s hrel).1).mono fun e W' he => ?_
  obtain ⟨ι', H', s', x', he⟩ := he
  have hb : Below W.heap.size W W' := by
    refine ⟨x'.os, x'.tape, x'.output, x'.hs, fun c hc => x'.kept c hc fun b p z e => hro b ?_⟩
    rcases Nat.lt_or_ge b H.next with h | h
    · exact h
    · rw [s.nx b h] at e; cases e
  cases e with
  | returned v' => obtain ⟨u, h1, h2⟩ := he; cases h2; exact ⟨by rw [show v' = .bool true from h1], hb⟩
  | panicked c => obtain ⟨u, u', _, _, h2⟩ := he; cases h2
  | outgrown => exact he.elim

end
end Go.Ab
namespace Go.Ab
theorem split_ints {k : IntKind} {H : Heap} : ∀ {L : List V} {zs : List Int}, Split (Is H (.int k)) L zs → L = zs.map (V.int k) ∧ ∀ z ∈ zs, inK k z
  | _, [], h => ⟨h, fun _ h => by cases h⟩
  | _, z :: zs, ⟨a, b, e, ⟨h1, h2⟩, h3⟩ => by
    obtain ⟨h4, h5⟩ := split_ints h3
    refine ⟨by rw [e, h1, h4]; rfl, fun y hy => ?_⟩
    rcases List.mem_cons.1 hy with rfl | hy
    · exact h2
    · exact h5 y hy
theorem Is.ints {k : IntKind} {b : Nat} {H : Heap} {cs : List V} {zs : List Int} (h : Is H (.sl b (.int k)) cs zs) : ∃ v, cs = [v] ∧ Arr H v 1 zs.length (zs.map (V.int k)) ∧ (∀ z ∈ zs, inK k z) ∧ zs.length * b ≤ 140737488351232 := by
  obtain ⟨v, L, h1, h2, h3, h4⟩ := h
  obtain ⟨h5, h6⟩ := split_ints h3
  exact ⟨v, h1, by rw [← h5]; exact h2, h6, h4⟩
theorem nats_of {k : IntKind} (hk : k.min = 0) : ∀ {zs : List Int}, (∀ z ∈ zs, inK k z) → ∃ ns : List Nat, zs = ns.map (fun (n : Nat) => (n : Int)) ∧ ∀ n ∈ ns, ((n : Nat) : Int) ≤ k.max
  | [], _ => ⟨[], rfl, fun _ h => by cases h⟩
  | z :: zs, h => by
    obtain ⟨ns, h1, h2⟩ := nats_of hk fun y hy => h y (List.mem_cons_of_mem _ hy)
    have hz := h z List.mem_cons_self
    unfold inK at hz
    rw [hk] at hz
    refine ⟨z.toNat :: ns, ?_, fun n hn => ?_⟩
    · rw [List.map_cons, ← h1, Int.toNat_of_nonneg hz.1]
    · rcases List.mem_cons.1 hn with rfl | hn
      · rw [Int.toNat_of_nonneg hz.1]; exact hz.2
      · exact h2 n hn
theorem Is.nats {k : IntKind} {b : Nat} {H : Heap} {cs : List V} {zs : List Int} (hk : k.min = 0) (h : Is H (.sl b (.int k)) cs zs) :
    ∃ (v : V) (ns : List Nat), cs = [v] ∧ Arr H v 1 ns.length (ns.map fun (n : Nat) => .int k n) ∧ (∀ n ∈ ns, ((n : Nat) : Int) ≤ k.max) ∧ ns.length * b ≤ 140737488351232 := by
  obtain ⟨v, h1, h2, h3, h4⟩ := Is.ints h
  obtain ⟨ns, rfl, h5⟩ := nats_of hk h3
  rw [List.length_map] at h2 h4
  rw [List.map_map] at h2
  exact ⟨v, ns, h1, h2, h5, h4⟩
end Go.Ab
namespace Go.Ab
abbrev segTD : TD := .agg [.int .i64, .int .i64, .int .i64, .sl 8 (.int .i64), .sl 1 .bool, .bool, .sl 1 (.int .u8)]
theorem k64 {n : Int} (h : inK .i64 n) : r64 n := by
  unfold inK at h
  rw [show IntKind.i64.min = -9223372036854775808 by decide, show IntKind.i64.max = 9223372036854775807 by decide] at h
  exact h
theorem is_bytes {b : Nat} {H : Heap} {cs : List V} {zs : List Int} (h : Is H (.sl b (.int .u8)) cs zs) : ∃ (v : V) (f : List Nat), cs = [v] ∧ Arr H v 1 f.length (u8s f) ∧ (∀ x ∈ f, x < 256) ∧ f.length * b ≤ 140737488351232 := by
  obtain ⟨v, ns, h1, h2, h3, h4⟩ := Is.nats (k := .u8) rfl h
  refine ⟨v, ns, h1, h2, fun x hx => ?_, h4⟩
  have := h3 x hx
  rw [show IntKind.u8.max = 255 by decide] at this
  omega
theorem split_bools {H : Heap} : ∀ {L : List V} {bs : List Bool}, Split (Is H .bool) L bs → L = bools bs
  | _, [], h => h
  | _, b :: bs, ⟨a, r, e, h1, h2⟩ => by rw [e, show a = [.bool b] from h1, split_bools h2]; rfl
theorem is_bools {b : Nat} {H : Heap} {cs : List V} {bs : List Bool} (h : Is H (.sl b .bool) cs bs) : ∃ v, cs = [v] ∧ Arr H v 1 bs.length (bools bs) ∧ bs.length * b ≤ 140737488351232 := by
  obtain ⟨v, L, h1, h2, h3, h4⟩ := h
  exact ⟨v, h1, by rw [← split_bools h3]; exact h2, h4⟩
structure PlO where
  v : V
  f : List Nat
  p : Int
def PlO.cs (o : PlO) : List V := [o.v, .int .i64 o.p]
structure SgO where
  s : Sg
  v1 : V
  v2 : V
  v3 : V
def SgO.cs (o : SgO) : List V := o.s.cells o.v1 o.v2 o.v3
def SgOk (H : Heap) (o : SgO) : Prop := SgR H o.v1 o.v2 o.v3 o.s
theorem is_seg {H : Heap} {cs : List V} {x : TD.Ty segTD} (h : Is H segTD cs x) : ∃ o : SgO, cs = o.cs ∧ SgOk H o := by
  obtain ⟨a, r, e, ⟨h1, g1⟩, a2, r2, e2, ⟨h2, g2⟩, a3, r3, e3, ⟨h3, g3⟩, a4, r4, e4, h4, a5, r5, e5, h5, a6, r6, e6, h6, a7, r7, e7, h7, h8⟩ := h
  obtain ⟨v1, k1, k2, k3, k4⟩ := Is.ints h4
  obtain ⟨v2, l1, l2, l3⟩ := is_bools h5
  obtain ⟨v3, f, m1, m2, m3, m4⟩ := is_bytes h7
  refine ⟨⟨⟨x.1, x.2.1, x.2.2.1, x.2.2.2.1, x.2.2.2.2.1, x.2.2.2.2.2.1, f⟩, v1, v2, v3⟩, ?_, ⟨k2, l2, m2, ⟨k64 g1, k64 g2, k64 g3, fun n hn => k64 (k3 n hn), m3, ?_, ?_, ?_⟩⟩⟩
  · rw [e, e2, e3, e4, e5, e6, e7, h1, h2, h3, k1, l1, m1, show a6 = [.bool x.2.2.2.2.2.1] from h6, show r7 = [] from h8]; rfl
  · dsimp only; omega
  · dsimp only; omega
  · dsimp only; omega
def sgCells (l : List SgO) : List V := l.flatMap SgO.cs
theorem sgCells_at : ∀ {l : List SgO} {i : Nat} (hi : i < l.length), ((sgCells l).drop (i * 7)).take 7 = l[i].cs
  | o :: l, 0, _ => by simp [sgCells, SgO.cs, Sg.cells]
  | o :: l, i + 1, hi => by
    have := sgCells_at (l := l) (i := i) (by simpa using hi)
    rw [show (i + 1) * 7 = 7 + i * 7 by omega, ← List.drop_drop]
    simpa [sgCells, SgO.cs, Sg.cells] using this
theorem is_segs {b : Nat} {H : Heap} {cs : List V} {xs : TD.Ty (.sl b segTD)} (h : Is H (.sl b segTD) cs xs) : ∃ (v : V) (l : List SgO), cs = [v] ∧ Arr H v 7 l.length (sgCells l) ∧ (∀ o ∈ l, SgOk H o) ∧ l.length * b ≤ 140737488351232 := by
  obtain ⟨v, L, h1, h2, h3, h4⟩ := h
  have key : ∀ (xs : List (TD.Ty segTD)) (L : List V), Split (Is H segTD) L xs → ∃ l : List SgO, L = sgCells l ∧ l.length = List.length xs ∧ ∀ o ∈ l, SgOk H o := by
    intro xs
    induction xs with
    | nil => exact fun L h => ⟨[], h, rfl, fun _ h => nomatch h⟩
    | cons x xs ih =>
      rintro L ⟨a, r, e, k1, k2⟩
      obtain ⟨o, k3, k4⟩ := is_seg k1
      obtain ⟨l, k5, k6, k7⟩ := ih r k2
      refine ⟨o :: l, by rw [e, k3, k5]; rfl, by rw [List.length_cons, k6]; rfl, fun q hq => ?_⟩
      rcases List.mem_cons.1 hq with rfl | hq
      · exact k4
      · exact k7 q hq
  obtain ⟨l, k1, k2, k3⟩ := key xs L h3
  exact ⟨v, l, h1, by rw [k2, ← k1]; exact h2, k3, by rw [k2]; exact h4⟩
theorem SgOk.same {H H' : Heap} {o : SgO} (h : SgOk H o) (k : Same (fun _ => False) H H') : SgOk H' o := SgR.same h k
end Go.Ab
namespace Go.Ab
section
variable {P : Prog} {H : Heap} {R : List As} {Q : Out → Heap → Prop}
/-- Segments that can be read. -/
structure FlR (H : Heap) (v : V) (l : List SgO) : Prop where
  arr : Arr H v 7 l.length (sgCells l)
  ok : ∀ o ∈ l, SgOk H o
theorem FlR.same {H H' : Heap} {v : V} {l : List SgO} (h : FlR H v l) (k : Same (fun _ => False) H H') : FlR H' v l := ⟨h.arr.same k fun _ _ h => h, fun o ho => (h.ok o ho).same k⟩
abbrev ss (l : List SgO) : List Sg := l.map SgO.s
theorem FlR.at {H : Heap} {v : V} {l : List SgO} (h : FlR H v l) {i : Nat} (hi : i < l.length) :
    ∃ b o c, v = .sl (some (b, o)) l.length c 7 ∧ rd H (some 7) b (o + i * 7) = some (.agg l[i].cs) ∧ (∀ k, k < 7 → rd H none b (o + i * 7 + k) = l[i].cs[k]?) ∧ SgOk H l[i] := by
  obtain ⟨b, o, c, rfl⟩ := h.arr.at0 (by omega)
  refine ⟨b, o, c, rfl, by rw [h.arr.agg hi, sgCells_at hi], fun k hk => ?_, h.ok _ (List.getElem_mem hi)⟩
  rw [h.arr.rdm hi hk, ← sgCells_at hi, List.getElem?_take, if_pos hk, List.getElem?_drop]
def wr2F (b : Nat) (v : V) (rnd : Bool) (n i : Nat) : Fr := ⟨[(0, v), (1, .bool rnd), (6, .ptr (some (b, 0))), (20, v), (21, .int .i64 (n : Nat)), (22, .int .i64 (i : Nat))], []⟩
theorem cnt_loop {b : Nat} {v : V} {l : List SgO} {rnd : Bool} {c0 c1 c3 c4 : V} (hR : ∀ H', Hs H' R → FlR H' v l) (hl : l.length ≤ 1000000) (hs : Hs H (Cel b [c0, c1, .int .i64 0, c3, c4] :: R)) {Qp : Post} {s' t'}
    (h1 : ∀ H' ex, Hs H' (Cel b [c0, c1, .int .i64 (pgs (ss l) : Nat), c3, c4] :: R) → Qp (.exit 0) ⟨(0, v) :: (1, .bool rnd) :: (6, .ptr (some (b, 0))) :: ex, []⟩ H') :
    loopL (Call P) [0, 1, 6, 20, 21, 22] file_Write_l2 Qp s' t' (wr2F b v rnd l.length 0) H := by
  refine loop_cnt l.length (wr2F b v rnd l.length) (fun i H => Hs H (Cel b [c0, c1, .int .i64 (pgs ((ss l).take i) : Nat), c3, c4] :: R)) (fun i H K hi hS hx hy hz => ?_) 0 H (Nat.zero_le _) (by simpa [pgs] using hs)
  unfold wr2F
  by_cases hlt : i < l.length
  · obtain ⟨vb, vo, vc, rfl, r7, rk, ok⟩ := (hR H hS.tail).at hlt
    have hp := pgs_snoc (ss l) (i := i) (by simpa using hlt)
    have hle := pgs_le ((ss l).take i)
    rw [List.length_take, List.length_map, Nat.min_eq_left hi] at hle
    rw [List.getElem_map] at hp
    have hx := hx hlt
    generalize l[i] = q at *
    obtain ⟨s, v1, v2, v3⟩ := q
    unfold SgO.cs at r7 rk
    dsimp only at r7 hp
    obtain ⟨a1, z1, e1, hs1⟩ := ok.refs.shape
    obtain ⟨a2, z2, e2, hs2⟩ := ok.keep.shape
    obtain ⟨a3, z3, e3, hs3⟩ := ok.data.shape
    dsimp only at hs1 hs2 hs3
    subst hs1 hs2 hs3
    have g := hS.alloc (l := s.cells (.sl a1 s.refs.length z1 e1) (.sl a2 s.keep.length z2 e2) (.sl a3 s.data.length z3 e3))
    generalize pgs ((ss l).take i) = k at *
    unfold Sg.cells at r7 g
    have r8 := rd_s g.cel
    have rb := rd_s (Hs.p1 g).cel
    have wb := wr_s (Hs.p1 g).cel 2
    have ek : (k : Int) + 1 = ((k + 1 : Nat) : Int) := by omega
    by_cases k1 : s.kind = 1
    · rw [if_pos k1] at hp
      simp -implicitDefEqProofs -dsimp (disch := omega) only [go_sem, dec_t, dec_f, file_Write_l2, Int.toNat_natCast, r7, r8, rb, w64, wb, ek, cadd1]
      refine hx _ ?_
      rw [hp]
      exact ((Hs.p1 g).put).tail2
    · rw [if_neg k1] at hp
      simp -implicitDefEqProofs -dsimp (disch := omega) only [go_sem, dec_t, dec_f, file_Write_l2, Int.toNat_natCast, r7, r8, w64, cadd1]
      refine hx _ ?_
      rw [hp]
      exact g.tail
  · have : i = l.length := by omega
    subst this
    rw [List.take_of_length_le (by simp)] at hS
    obtain ⟨a, c, e, rfl⟩ := (hR H hS.tail).arr.shape
    simp -implicitDefEqProofs -dsimp (disch := omega) only [go_sem, dec_t, dec_f, file_Write_l2]
    rw [hy]
    exact h1 H _ hS
end
end Go.Ab
namespace Go.Ab
-- burinref16_refers: 168, parameters kind; loops 
-- burinref16_paged: 169, parameters kind; loops 
-- burinref16_May: 170, parameters ?; loops burinref16_May_l0 [1 ?, 5 ?]
-- burinref16_bit: 171, parameters ok; loops 
-- burinref16_Encode: 172, parameters ?; loops burinref16_Encode_l0 [1 ?, 4 ?, 5 ?, 6 ?]
-- burinref0_CopySegments: 174, parameters l; loops burinref0_CopySegments_l0 [0 l, 3 out, 4 i]
-- burinref0_CopyInts: 173, parameters a; loops 
/-- burin/burinref16.refers -/
def burinref16_refers : AFun := ⟨1, 9, true, [.t 2],
  .seq (.reg false [0] [⟨some 2, .mv (.c (.bool false)), none, 0, []⟩])
  (.seq (.reg false [2] [⟨some 3, .mv (.t 0), none, 0, []⟩,
    ⟨some 4, .bin .eql .num (.t 3) (.c (.int .i64 2)), none, 0, []⟩,
    ⟨some 5, .mv (.t 4), none, 0, []⟩,
    ⟨some 6, .mv (.t 0), some (5, false), 0, []⟩,
    ⟨some 7, .bin .eql .num (.t 6) (.c (.int .i64 3)), some (5, false), 0, []⟩,
    ⟨some 8, .pick (.t 5) (.c (.bool true)) (.t 7), none, 0, []⟩,
    ⟨some 2, .mv (.t 8), none, 0, []⟩])
  (.ret))⟩

/-- burin/burinref16.paged -/
def burinref16_paged : AFun := ⟨1, 9, true, [.t 2, .t 3],
  .seq (.reg false [0] [⟨some 2, .mv (.c (.int .i64 0)), none, 0, []⟩,
    ⟨some 3, .mv (.c (.int .i64 0)), none, 0, []⟩])
  (.seq (.seq (.reg false [4] [⟨some 4, .mv (.t 0), none, 0, []⟩])
  (.block 0 (.seq (.reg false [4, 5] [⟨some 6, .bin .eql .num (.t 4) (.c (.int .i64 2)), none, 0, []⟩,
    ⟨some 5, .mv (.t 6), none, 0, []⟩])
  (.cond (.t 5) (.seq (.reg false [2, 3] [⟨some 2, .mv (.c (.int .i64 0)), none, 0, []⟩,
    ⟨some 3, .mv (.c (.int .i64 64)), none, 0, []⟩])
  (.ret))
  (.seq (.reg false [7] [⟨some 8, .bin .eql .num (.t 4) (.c (.int .i64 7)), none, 0, []⟩,
    ⟨some 7, .mv (.t 8), none, 0, []⟩])
  (.cond (.t 7) (.seq (.reg false [2, 3] [⟨some 2, .mv (.c (.int .i64 0)), none, 0, []⟩,
    ⟨some 3, .mv (.c (.int .i64 0)), none, 0, []⟩])
  (.ret))
  (.skip)))))))
  (.seq (.reg false [2, 3] [⟨some 2, .mv (.c (.int .i64 1)), none, 0, []⟩,
    ⟨some 3, .mv (.c (.int .i64 64)), none, 0, []⟩])
  (.ret)))⟩

def burinref16_May_l0 : Cd := .seq (.seq (.reg false [1, 5, 80] [⟨some 76, .mv (.t 5), none, 0, []⟩,
    ⟨some 77, .fad 3 (.t 1), none, 0, []⟩,
    ⟨some 78, .load none (.t 77), none, 0, []⟩,
    ⟨some 79, .len none (.t 78), none, 0, []⟩,
    ⟨some 80, .bin .lss .num (.t 76) (.t 79), none, 0, []⟩])
  (.cond (.t 80) (.skip)
  (.exit 0)))
  (.seq (.block 1 (.seq (.reg true [1, 5, 116] [⟨some 83, .fad 3 (.t 1), none, 0, []⟩,
    ⟨some 84, .load none (.t 83), none, 1, []⟩,
    ⟨some 85, .mv (.t 5), none, 2, []⟩,
    ⟨some 86, .iad none 1 (.t 84) (.t 85), none, 3, []⟩,
    ⟨some 87, .load none (.t 86), none, 4, []⟩,
    ⟨some 88, .bin .lss .num (.t 87) (.c (.int .i64 0)), none, 5, []⟩,
    ⟨some 89, .mv (.t 88), none, 6, []⟩,
    ⟨some 90, .fad 3 (.t 1), some (89, false), 7, []⟩,
    ⟨some 91, .load none (.t 90), some (89, false), 8, []⟩,
    ⟨some 92, .mv (.t 5), some (89, false), 9, []⟩,
    ⟨some 93, .iad none 1 (.t 91) (.t 92), some (89, false), 10, []⟩,
    ⟨some 94, .load none (.t 93), some (89, false), 11, []⟩,
    ⟨some 95, .fad 0 (.t 1), some (89, false), 12, []⟩,
    ⟨some 96, .load none (.t 95), some (89, false), 13, []⟩,
    ⟨some 97, .bin .geq .num (.t 94) (.t 96), some (89, false), 14, []⟩,
    ⟨some 98, .pick (.t 89) (.c (.bool true)) (.t 97), none, 15, []⟩,
    ⟨some 99, .mv (.t 98), none, 16, []⟩,
    ⟨some 100, .mv (.t 5), some (99, false), 17, []⟩,
    ⟨some 101, .bin .gtr .num (.t 100) (.c (.int .i64 0)), some (99, false), 18, []⟩,
    ⟨some 102, .mv (.t 101), some (99, false), 19, []⟩,
    ⟨some 103, .fad 3 (.t 1), some (102, true), 20, []⟩,
    ⟨some 104, .load none (.t 103), some (102, true), 21, []⟩,
    ⟨some 105, .mv (.t 5), some (102, true), 22, []⟩,
    ⟨some 106, .iad none 1 (.t 104) (.t 105), some (102, true), 23, []⟩,
    ⟨some 107, .load none (.t 106), some (102, true), 24, []⟩,
    ⟨some 108, .fad 3 (.t 1), some (102, true), 25, []⟩,
    ⟨some 109, .load none (.t 108), some (102, true), 26, []⟩,
    ⟨some 110, .mv (.t 5), some (102, true), 27, []⟩,
    ⟨some 111, .bin .sub .num (.t 110) (.c (.int .i64 1)), some (102, true), 28, []⟩,
    ⟨some 112, .iad none 1 (.t 109) (.t 111), some (102, true), 29, []⟩,
    ⟨some 113, .load none (.t 112), some (102, true), 30, []⟩,
    ⟨some 114, .bin .leq .num (.t 107) (.t 113), some (102, true), 31, []⟩,
    ⟨some 115, .pick (.t 102) (.t 114) (.c (.bool false)), some (99, false), 32, []⟩,
    ⟨some 116, .pick (.t 99) (.c (.bool true)) (.t 115), none, 33, []⟩])
  (.cond (.t 116) (.seq (.reg false [2] [⟨some 2, .mv (.c (.bool false)), none, 0, []⟩])
  (.ret))
  (.skip))))
  (.reg false [1, 5] [⟨some 81, .mv (.t 5), none, 0, []⟩,
    ⟨some 82, .bin .add .num (.t 81) (.c (.int .i64 1)), none, 0, []⟩,
    ⟨some 5, .mv (.t 82), none, 0, []⟩]))
/-- burin/burinref16.May -/
def burinref16_May : AFun := ⟨1, 131, true, [.t 2],
  .seq (.reg false [1] [⟨some 1, .box 7 (.t 0), none, 0, []⟩,
    ⟨some 2, .mv (.c (.bool false)), none, 0, []⟩])
  (.seq (.seq (.reg false [1, 23] [⟨some 6, .fad 0 (.t 1), none, 0, []⟩,
    ⟨some 7, .load none (.t 6), none, 0, []⟩,
    ⟨some 8, .bin .lss .num (.t 7) (.c (.int .i64 0)), none, 0, []⟩,
    ⟨some 9, .mv (.t 8), none, 0, []⟩,
    ⟨some 10, .fad 0 (.t 1), some (9, false), 0, []⟩,
    ⟨some 11, .load none (.t 10), some (9, false), 0, []⟩,
    ⟨some 12, .bin .geq .num (.t 11) (.c (.int .i64 32768)), some (9, false), 0, []⟩,
    ⟨some 13, .pick (.t 9) (.c (.bool true)) (.t 12), none, 0, []⟩,
    ⟨some 14, .mv (.t 13), none, 0, []⟩,
    ⟨some 15, .fad 1 (.t 1), some (14, false), 0, []⟩,
    ⟨some 16, .load none (.t 15), some (14, false), 0, []⟩,
    ⟨some 17, .bin .lss .num (.t 16) (.c (.int .i64 1)), some (14, false), 0, []⟩,
    ⟨some 18, .pick (.t 14) (.c (.bool true)) (.t 17), none, 0, []⟩,
    ⟨some 19, .mv (.t 18), none, 0, []⟩,
    ⟨some 20, .fad 1 (.t 1), some (19, false), 0, []⟩,
    ⟨some 21, .load none (.t 20), some (19, false), 0, []⟩,
    ⟨some 22, .bin .gtr .num (.t 21) (.c (.int .i64 7)), some (19, false), 0, []⟩,
    ⟨some 23, .pick (.t 19) (.c (.bool true)) (.t 22), none, 0, []⟩])
  (.cond (.t 23) (.seq (.reg false [2] [⟨some 2, .mv (.c (.bool false)), none, 0, []⟩])
  (.ret))
  (.skip)))
  (.seq (.reg false [1, 3, 4] [⟨some 25, .fad 1 (.t 1), none, 0, []⟩,
    ⟨some 26, .load none (.t 25), none, 0, []⟩,
    ⟨some 27, .call (.f 169) [(.t 26)], none, 0, []⟩,
    ⟨some 24, .mv (.t 27), none, 0, []⟩,
    ⟨some 28, .ext 0 (.t 24), none, 0, []⟩,
    ⟨some 29, .ext 1 (.t 24), none, 0, []⟩,
    ⟨some 3, .mv (.t 28), none, 0, []⟩,
    ⟨some 4, .mv (.t 29), none, 0, []⟩])
  (.seq (.seq (.reg false [1, 75] [⟨some 30, .fad 2 (.t 1), none, 0, []⟩,
    ⟨some 31, .load none (.t 30), none, 0, []⟩,
    ⟨some 32, .mv (.t 3), none, 0, []⟩,
    ⟨some 33, .bin .lss .num (.t 31) (.t 32), none, 0, []⟩,
    ⟨some 34, .mv (.t 33), none, 0, []⟩,
    ⟨some 35, .fad 2 (.t 1), some (34, false), 0, []⟩,
    ⟨some 36, .load none (.t 35), some (34, false), 0, []⟩,
    ⟨some 37, .mv (.t 4), some (34, false), 0, []⟩,
    ⟨some 38, .bin .gtr .num (.t 36) (.t 37), some (34, false), 0, []⟩,
    ⟨some 39, .pick (.t 34) (.c (.bool true)) (.t 38), none, 0, []⟩,
    ⟨some 40, .mv (.t 39), none, 0, []⟩,
    ⟨some 41, .fad 3 (.t 1), some (40, false), 0, []⟩,
    ⟨some 42, .load none (.t 41), some (40, false), 0, []⟩,
    ⟨some 43, .len none (.t 42), some (40, false), 0, []⟩,
    ⟨some 44, .bin .gtr .num (.t 43) (.c (.int .i64 0)), some (40, false), 0, []⟩,
    ⟨some 45, .mv (.t 44), some (40, false), 0, []⟩,
    ⟨some 46, .fad 1 (.t 1), some (45, true), 0, []⟩,
    ⟨some 47, .load none (.t 46), some (45, true), 0, []⟩,
    ⟨some 48, .call (.f 168) [(.t 47)], some (45, true), 0, []⟩,
    ⟨some 49, .un .not (.t 48), some (45, true), 0, []⟩,
    ⟨some 50, .pick (.t 45) (.t 49) (.c (.bool false)), some (40, false), 0, []⟩,
    ⟨some 51, .pick (.t 40) (.c (.bool true)) (.t 50), none, 0, []⟩,
    ⟨some 52, .mv (.t 51), none, 0, []⟩,
    ⟨some 53, .fad 4 (.t 1), some (52, false), 0, []⟩,
    ⟨some 54, .load none (.t 53), some (52, false), 0, []⟩,
    ⟨some 55, .len none (.t 54), some (52, false), 0, []⟩,
    ⟨some 56, .fad 3 (.t 1), some (52, false), 0, []⟩,
    ⟨some 57, .load none (.t 56), some (52, false), 0, []⟩,
    ⟨some 58, .len none (.t 57), some (52, false), 0, []⟩,
    ⟨some 59, .bin .neq .num (.t 55) (.t 58), some (52, false), 0, []⟩,
    ⟨some 60, .pick (.t 52) (.c (.bool true)) (.t 59), none, 0, []⟩,
    ⟨some 61, .mv (.t 60), none, 0, []⟩,
    ⟨some 62, .fad 5 (.t 1), some (61, false), 0, []⟩,
    ⟨some 63, .load none (.t 62), some (61, false), 0, []⟩,
    ⟨some 64, .mv (.t 63), some (61, false), 0, []⟩,
    ⟨some 65, .fad 1 (.t 1), some (64, true), 0, []⟩,
    ⟨some 66, .load none (.t 65), some (64, true), 0, []⟩,
    ⟨some 67, .bin .neq .num (.t 66) (.c (.int .i64 2)), some (64, true), 0, []⟩,
    ⟨some 68, .pick (.t 64) (.t 67) (.c (.bool false)), some (61, false), 0, []⟩,
    ⟨some 69, .pick (.t 61) (.c (.bool true)) (.t 68), none, 0, []⟩,
    ⟨some 70, .mv (.t 69), none, 0, []⟩,
    ⟨some 71, .fad 6 (.t 1), some (70, false), 0, []⟩,
    ⟨some 72, .load none (.t 71), some (70, false), 0, []⟩,
    ⟨some 73, .len none (.t 72), some (70, false), 0, []⟩,
    ⟨some 74, .bin .gtr .num (.t 73) (.c (.int .i64 67108864)), some (70, false), 0, []⟩,
    ⟨some 75, .pick (.t 70) (.c (.bool true)) (.t 74), none, 0, []⟩])
  (.cond (.t 75) (.seq (.reg false [2] [⟨some 2, .mv (.c (.bool false)), none, 0, []⟩])
  (.ret))
  (.skip)))
  (.seq (.seq (.reg false [1, 5] [⟨some 5, .mv (.c (.int .i64 0)), none, 0, []⟩])
  (.block 0 (.loop [1, 5] burinref16_May_l0)))
  (.seq (.reg false [2] [⟨some 117, .fad 1 (.t 1), none, 0, []⟩,
    ⟨some 118, .load none (.t 117), none, 0, []⟩,
    ⟨some 119, .bin .neq .num (.t 118) (.c (.int .i64 6)), none, 0, []⟩,
    ⟨some 120, .mv (.t 119), none, 0, []⟩,
    ⟨some 121, .fad 1 (.t 1), some (120, true), 0, []⟩,
    ⟨some 122, .load none (.t 121), some (120, true), 0, []⟩,
    ⟨some 123, .bin .neq .num (.t 122) (.c (.int .i64 7)), some (120, true), 0, []⟩,
    ⟨some 124, .pick (.t 120) (.t 123) (.c (.bool false)), none, 0, []⟩,
    ⟨some 125, .mv (.t 124), none, 0, []⟩,
    ⟨some 126, .fad 6 (.t 1), some (125, false), 0, []⟩,
    ⟨some 127, .load none (.t 126), some (125, false), 0, []⟩,
    ⟨some 128, .len none (.t 127), some (125, false), 0, []⟩,
    ⟨some 129, .bin .eql .num (.t 128) (.c (.int .i64 0)), some (125, false), 0, []⟩,
    ⟨some 130, .pick (.t 125) (.c (.bool true)) (.t 129), none, 0, []⟩,
    ⟨some 2, .mv (.t 130), none, 0, []⟩])
  (.ret))))))⟩

/-- burin/burinref16.bit -/
def burinref16_bit : AFun := ⟨1, 4, true, [.t 2],
  .seq (.reg false [0] [⟨some 2, .mv (.c (.int .u64 0)), none, 0, []⟩])
  (.seq (.seq (.reg false [3] [⟨some 3, .mv (.t 0), none, 0, []⟩])
  (.cond (.t 3) (.seq (.reg false [2] [⟨some 2, .mv (.c (.int .u64 1)), none, 0, []⟩])
  (.ret))
  (.skip)))
  (.seq (.reg false [2] [⟨some 2, .mv (.c (.int .u64 0)), none, 0, []⟩])
  (.ret)))⟩

def burinref16_Encode_l0 : Cd := .seq (.seq (.reg false [1, 4, 5, 6, 38] [⟨some 34, .mv (.t 6), none, 0, []⟩,
    ⟨some 35, .fad 3 (.t 1), none, 0, []⟩,
    ⟨some 36, .load none (.t 35), none, 0, []⟩,
    ⟨some 37, .len none (.t 36), none, 0, []⟩,
    ⟨some 38, .bin .lss .num (.t 34) (.t 37), none, 0, []⟩])
  (.cond (.t 38) (.skip)
  (.exit 0)))
  (.seq (.block 1 (.seq (.reg false [1, 4, 5, 6] [⟨some 41, .mv (.t 4), none, 0, []⟩,
    ⟨some 42, .fad 3 (.t 1), none, 0, []⟩,
    ⟨some 43, .load none (.t 42), none, 0, []⟩,
    ⟨some 44, .mv (.t 6), none, 0, []⟩,
    ⟨some 45, .iad none 1 (.t 43) (.t 44), none, 0, []⟩,
    ⟨some 46, .load none (.t 45), none, 0, []⟩,
    ⟨some 47, .conv .u64 (.t 46), none, 0, []⟩,
    ⟨some 48, .call (.f 18) [(.t 47)], none, 0, []⟩,
    ⟨some 49, .append 1 1 (.t 41) (.t 48), none, 0, []⟩,
    ⟨some 4, .mv (.t 49), none, 0, []⟩])
  (.reg false [1, 4, 5, 6] [⟨some 50, .mv (.t 5), none, 0, []⟩,
    ⟨some 51, .fad 4 (.t 1), none, 0, []⟩,
    ⟨some 52, .load none (.t 51), none, 0, []⟩,
    ⟨some 53, .mv (.t 6), none, 0, []⟩,
    ⟨some 54, .iad none 1 (.t 52) (.t 53), none, 0, []⟩,
    ⟨some 55, .load none (.t 54), none, 0, []⟩,
    ⟨some 56, .call (.f 171) [(.t 55)], none, 0, []⟩,
    ⟨some 57, .call (.f 17) [(.t 50), (.t 56), (.c (.int .i64 1))], none, 0, []⟩])))
  (.reg false [1, 4, 5, 6] [⟨some 39, .mv (.t 6), none, 0, []⟩,
    ⟨some 40, .bin .add .num (.t 39) (.c (.int .i64 1)), none, 0, []⟩,
    ⟨some 6, .mv (.t 40), none, 0, []⟩]))
/-- burin/burinref16.Encode -/
def burinref16_Encode : AFun := ⟨1, 74, true, [.t 2, .t 3],
  .seq (.reg false [1] [⟨some 1, .box 7 (.t 0), none, 0, []⟩,
    ⟨some 2, .mv (.c (.sl none 0 0 0)), none, 0, []⟩,
    ⟨some 3, .mv (.c (.int .i64 0)), none, 0, []⟩])
  (.seq (.seq (.reg false [1, 9] [⟨some 7, .load (some 7) (.t 1), none, 0, []⟩,
    ⟨some 8, .call (.f 170) [(.t 7)], none, 0, []⟩,
    ⟨some 9, .un .not (.t 8), none, 0, []⟩])
  (.cond (.t 9) (.seq (.reg false [2, 3] [⟨some 2, .mv (.c (.sl none 0 0 0)), none, 0, []⟩,
    ⟨some 3, .mv (.c (.int .i64 161)), none, 0, []⟩])
  (.ret))
  (.skip)))
  (.seq (.reg true [1, 4] [⟨some 10, .fad 0 (.t 1), none, 0, []⟩,
    ⟨some 11, .load none (.t 10), none, 1, []⟩,
    ⟨some 12, .conv .u64 (.t 11), none, 2, []⟩,
    ⟨some 14, .fad 1 (.t 1), none, 4, []⟩,
    ⟨some 15, .load none (.t 14), none, 5, []⟩,
    ⟨some 16, .conv .u8 (.t 15), none, 6, []⟩,
    ⟨some 17, .bslice 1 [.int .u8 0] 1 [(0, (.t 16))], none, 7, []⟩,
    ⟨some 13, .call (.f 18) [(.t 12)], none, 3, [5, 7]⟩,
    ⟨some 18, .append 1 1 (.t 13) (.t 17), none, 8, []⟩,
    ⟨some 4, .mv (.t 18), none, 9, []⟩])
  (.seq (.reg false [1, 4] [⟨some 19, .mv (.t 4), none, 0, []⟩,
    ⟨some 20, .fad 2 (.t 1), none, 0, []⟩,
    ⟨some 21, .load none (.t 20), none, 0, []⟩,
    ⟨some 22, .conv .u64 (.t 21), none, 0, []⟩,
    ⟨some 23, .call (.f 18) [(.t 22)], none, 0, []⟩,
    ⟨some 24, .append 1 1 (.t 19) (.t 23), none, 0, []⟩,
    ⟨some 4, .mv (.t 24), none, 0, []⟩])
  (.seq (.reg false [1, 4] [⟨some 25, .mv (.t 4), none, 0, []⟩,
    ⟨some 26, .fad 3 (.t 1), none, 0, []⟩,
    ⟨some 27, .load none (.t 26), none, 0, []⟩,
    ⟨some 28, .len none (.t 27), none, 0, []⟩,
    ⟨some 29, .conv .u64 (.t 28), none, 0, []⟩,
    ⟨some 30, .call (.f 18) [(.t 29)], none, 0, []⟩,
    ⟨some 31, .append 1 1 (.t 25) (.t 30), none, 0, []⟩,
    ⟨some 4, .mv (.t 31), none, 0, []⟩])
  (.seq (.reg false [1, 4, 5] [⟨some 32, .build [.int .i64 0, .sl none 0 0 0] [(0, 1, (.c (.int .i64 67108864)))], none, 0, []⟩,
    ⟨some 33, .box 2 (.t 32), none, 0, []⟩,
    ⟨some 5, .mv (.t 33), none, 0, []⟩])
  (.seq (.seq (.reg false [1, 4, 5, 6] [⟨some 6, .mv (.c (.int .i64 0)), none, 0, []⟩])
  (.block 0 (.loop [1, 4, 5, 6] burinref16_Encode_l0)))
  (.seq (.reg false [1, 4, 5] [⟨some 58, .mv (.t 5), none, 0, []⟩,
    ⟨some 59, .fad 5 (.t 1), none, 0, []⟩,
    ⟨some 60, .load none (.t 59), none, 0, []⟩,
    ⟨some 61, .call (.f 171) [(.t 60)], none, 0, []⟩,
    ⟨some 62, .call (.f 17) [(.t 58), (.t 61), (.c (.int .i64 1))], none, 0, []⟩])
  (.seq (.reg false [1, 4] [⟨some 63, .mv (.t 4), none, 0, []⟩,
    ⟨some 64, .mv (.t 5), none, 0, []⟩,
    ⟨some 65, .call (.f 21) [(.t 64)], none, 0, []⟩,
    ⟨some 66, .append 1 1 (.t 63) (.t 65), none, 0, []⟩,
    ⟨some 4, .mv (.t 66), none, 0, []⟩])
  (.seq (.reg false [2, 3] [⟨some 67, .mv (.t 4), none, 0, []⟩,
    ⟨some 68, .fad 6 (.t 1), none, 0, []⟩,
    ⟨some 69, .load none (.t 68), none, 0, []⟩,
    ⟨some 70, .len none (.t 69), none, 0, []⟩,
    ⟨some 71, .conv .u64 (.t 70), none, 0, []⟩,
    ⟨some 72, .call (.f 18) [(.t 71)], none, 0, []⟩,
    ⟨some 73, .append 1 1 (.t 67) (.t 72), none, 0, []⟩,
    ⟨some 2, .mv (.t 73), none, 0, []⟩,
    ⟨some 3, .mv (.c (.int .i64 0)), none, 0, []⟩])
  (.ret))))))))))⟩

def burinref0_CopySegments_l0 : Cd := .seq (.seq (.reg false [0, 3, 4, 10] [⟨some 7, .mv (.t 4), none, 0, []⟩,
    ⟨some 8, .mv (.t 0), none, 0, []⟩,
    ⟨some 9, .len none (.t 8), none, 0, []⟩,
    ⟨some 10, .bin .lss .num (.t 7) (.t 9), none, 0, []⟩])
  (.cond (.t 10) (.skip)
  (.exit 0)))
  (.seq (.block 1 (.seq (.reg false [0, 3, 4, 5] [⟨some 13, .mv (.t 0), none, 0, []⟩,
    ⟨some 14, .mv (.t 4), none, 0, []⟩,
    ⟨some 15, .iad none 7 (.t 13) (.t 14), none, 0, []⟩,
    ⟨some 16, .load (some 7) (.t 15), none, 0, []⟩,
    ⟨some 5, .alloc [.int .i64 0, .int .i64 0, .int .i64 0, .sl none 0 0 0, .sl none 0 0 0, .bool false, .sl none 0 0 0], none, 0, []⟩,
    ⟨none, .store 7 (.t 5) (.t 16), none, 0, []⟩])
  (.seq (.reg false [0, 3, 4, 5, 6] [⟨some 6, .mv (.c (.sl none 0 0 0)), none, 0, []⟩])
  (.seq (.reg false [0, 3, 4, 5, 6] [⟨some 17, .fad 3 (.t 5), none, 0, []⟩,
    ⟨some 18, .load none (.t 17), none, 0, []⟩,
    ⟨some 19, .call (.f 173) [(.t 18)], none, 0, []⟩,
    ⟨some 20, .fad 3 (.t 5), none, 0, []⟩,
    ⟨none, .store 1 (.t 20) (.t 19), none, 0, []⟩])
  (.seq (.reg false [0, 3, 4, 5] [⟨some 21, .mv (.t 6), none, 0, []⟩,
    ⟨some 22, .fad 4 (.t 5), none, 0, []⟩,
    ⟨some 23, .load none (.t 22), none, 0, []⟩,
    ⟨some 24, .append 1 1 (.t 21) (.t 23), none, 0, []⟩,
    ⟨some 25, .fad 4 (.t 5), none, 0, []⟩,
    ⟨none, .store 1 (.t 25) (.t 24), none, 0, []⟩])
  (.seq (.reg false [0, 3, 4, 5] [⟨some 26, .fad 6 (.t 5), none, 0, []⟩,
    ⟨some 27, .load none (.t 26), none, 0, []⟩,
    ⟨some 28, .call (.f 27) [(.t 27)], none, 0, []⟩,
    ⟨some 29, .fad 6 (.t 5), none, 0, []⟩,
    ⟨none, .store 1 (.t 29) (.t 28), none, 0, []⟩])
  (.reg false [0, 3, 4] [⟨some 30, .mv (.t 3), none, 0, []⟩,
    ⟨some 31, .load (some 7) (.t 5), none, 0, []⟩,
    ⟨some 32, .bslice 7 [.int .i64 0, .int .i64 0, .int .i64 0, .sl none 0 0 0, .sl none 0 0 0, .bool false, .sl none 0 0 0] 1 [(0, (.t 31))], none, 0, []⟩,
    ⟨some 33, .append 7 104 (.t 30) (.t 32), none, 0, []⟩,
    ⟨some 3, .mv (.t 33), none, 0, []⟩])))))))
  (.reg false [0, 3, 4] [⟨some 11, .mv (.t 4), none, 0, []⟩,
    ⟨some 12, .bin .add .num (.t 11) (.c (.int .i64 1)), none, 0, []⟩,
    ⟨some 4, .mv (.t 12), none, 0, []⟩]))
/-- burin/burinref0.CopySegments -/
def burinref0_CopySegments : AFun := ⟨1, 35, true, [.t 2],
  .seq (.reg false [0] [⟨some 2, .mv (.c (.sl none 0 0 0)), none, 0, []⟩])
  (.seq (.reg false [0, 3] [⟨some 3, .mv (.c (.sl none 0 0 0)), none, 0, []⟩])
  (.seq (.seq (.reg false [0, 3, 4] [⟨some 4, .mv (.c (.int .i64 0)), none, 0, []⟩])
  (.block 0 (.loop [0, 3, 4] burinref0_CopySegments_l0)))
  (.seq (.reg false [2] [⟨some 34, .mv (.t 3), none, 0, []⟩,
    ⟨some 2, .mv (.t 34), none, 0, []⟩])
  (.ret))))⟩

/-- burin/burinref0.CopyInts -/
def burinref0_CopyInts : AFun := ⟨1, 7, true, [.t 2],
  .seq (.reg false [0] [⟨some 2, .mv (.c (.sl none 0 0 0)), none, 0, []⟩])
  (.seq (.reg false [0, 3] [⟨some 3, .mv (.c (.sl none 0 0 0)), none, 0, []⟩])
  (.seq (.reg false [2] [⟨some 4, .mv (.t 3), none, 0, []⟩,
    ⟨some 5, .mv (.t 0), none, 0, []⟩,
    ⟨some 6, .append 1 8 (.t 4) (.t 5), none, 0, []⟩,
    ⟨some 2, .mv (.t 6), none, 0, []⟩])
  (.ret)))⟩

/-- A program that has them. -/
structure HasRf16 (P : Prog) : Prop where
  h_burinref16_refers : P 168 = some burinref16_refers
  h_burinref16_paged : P 169 = some burinref16_paged
  h_burinref16_May : P 170 = some burinref16_May
  h_burinref16_bit : P 171 = some burinref16_bit
  h_burinref16_Encode : P 172 = some burinref16_Encode
  h_burinref0_CopySegments : P 174 = some burinref0_CopySegments
  h_burinref0_CopyInts : P 173 = some burinref0_CopyInts

end Go.Ab
namespace Go.Ab
section
variable {P : Prog} {H : Heap} {R : List As} {Q : Out → Heap → Prop}
theorem refers_ct (hp : HasRf16 P) {k : Int} (hQ : Q (.ret (.bool (decide (refsK k)))) H) : Call P 168 [.int .i64 k] H Q := by
  refine call_of hp.h_burinref16_refers rfl ?_
  by_cases k2 : k = 2
  · rw [dec_t (show refsK k from Or.inl k2)] at hQ
    simp -implicitDefEqProofs -dsimp (disch := omega) only [go_sem, dec_t, dec_f, ]
    exact hQ
  · simp -implicitDefEqProofs -dsimp (disch := omega) only [go_sem, dec_t, dec_f, ]
    rw [show decide (k = 3) = decide (refsK k) from decide_eq_decide.2 (by unfold refsK; omega)]
    exact hQ
def pgLo (k : Int) : Int := if k = 2 ∨ k = 7 then 0 else 1
def pgHi (k : Int) : Int := if k = 7 then 0 else 64
theorem pagedR_ct (hp : HasRf16 P) {k : Int} (hQ : Q (.ret (.tup [.int .i64 (pgLo k), .int .i64 (pgHi k)])) H) : Call P 169 [.int .i64 k] H Q := by
  refine call_of hp.h_burinref16_paged rfl ?_
  unfold pgLo pgHi at hQ
  by_cases k2 : k = 2
  · rw [if_pos (by omega), if_neg (by omega)] at hQ
    simp -implicitDefEqProofs -dsimp (disch := omega) only [go_sem, dec_t, dec_f, ]
    exact hQ
  · by_cases k7 : k = 7
    · rw [if_pos (by omega), if_pos (by omega)] at hQ
      simp -implicitDefEqProofs -dsimp (disch := omega) only [go_sem, dec_t, dec_f, ]
      exact hQ
    · rw [if_neg (by omega), if_neg (by omega)] at hQ
      simp -implicitDefEqProofs -dsimp (disch := omega) only [go_sem, dec_t, dec_f, ]
      exact hQ
theorem bitR_ct (hp : HasRf16 P) {b : Bool} (hQ : Q (.ret (.int .u64 (b.toNat : Nat))) H) : Call P 171 [.bool b] H Q := by
  refine call_of hp.h_burinref16_bit rfl ?_
  cases b
  · simp -implicitDefEqProofs -dsimp (disch := omega) only [go_sem, dec_t, dec_f, ]
    exact hQ
  · simp -implicitDefEqProofs -dsimp (disch := omega) only [go_sem, dec_t, dec_f, ]
    exact hQ
def myF (b : Nat) (x : Nat × Int) : Fr := ⟨[(1, .ptr (some (b, 0))), (5, .int .i64 (x.1 : Nat))], []⟩
set_option maxHeartbeats 1000000 in
theorem may_loop {b1 : Nat} {v va vb vc vd : V} {l : List Int} {num : Int} (hr : Arr H v 1 l.length (i64s l)) (hl : l.length ≤ 140737488355328) {ve : V} (hc : H.get b1 = .cells [.int .i64 num, va, vb, v, vc, vd, ve] true) {Qp : Post} {s' t'}
    (h1 : incrF num (-1) l = true → ∀ ex, Qp (.exit 0) ⟨(1, .ptr (some (b1, 0))) :: ex, []⟩ H) (h2 : incrF num (-1) l = false → ∀ ex, Qp .ret ⟨(2, .bool false) :: ex, []⟩ H) :
    loopL (Call P) [1, 5] burinref16_May_l0 Qp s' t' (myF b1 (0, -1)) H := by
  refine loop_dec (σ := Nat × Int) (fun x => l.length - x.1) (myF b1) (fun x H' => H' = H ∧ x.1 ≤ l.length ∧ incrF num x.2 (l.drop x.1) = incrF num (-1) l ∧ -1 ≤ x.2 ∧ (x.1 = 0 → x.2 = -1) ∧ (∀ j, x.1 = j + 1 → l[j]? = some x.2)) (fun x H' K ok hn hx hy => ?_) (0, -1) H ⟨rfl, Nat.zero_le _, rfl, Int.le_refl _, fun _ => rfl, fun j h => nomatch h⟩
  obtain ⟨i, a⟩ := x
  obtain ⟨rfl, hi, hin, ha, h0, hj⟩ := ok
  dsimp only at hi hin hn ha h0 hj
  have rc := rd_s hc
  obtain ⟨av, ac, ae, hvs⟩ := hr.shape
  unfold myF
  by_cases hlt : i < l.length
  · obtain ⟨b, o, c, rfl⟩ := hr.at0 (by omega)
    clear hvs
    have rl := hr.rd1 hlt
    have hd := incr_drop (b := num) (a := a) hlt
    rw [List.getElem?_eq_getElem (by simpa [i64s] using hlt)] at rl
    simp only [i64s, List.getElem_map] at rl
    have hn := hn (i + 1, l[i]) H'
    dsimp only at hn
    have hgi : l[i]? = some l[i] := List.getElem?_eq_getElem hlt
    have hret : incrF num (-1) l = false → ∀ ex, K .ret ⟨(2, .bool false) :: ex, []⟩ H' := fun k ex => by rw [hy]; exact h2 k ex
    generalize l[i] = n at *
    rcases Nat.eq_zero_or_pos i with hi0 | hi0
    · subst hi0
      have := h0 rfl
      subst this
      rw [Nat.add_zero] at rl
      rcases (show n < 0 ∨ 0 ≤ n ∧ num ≤ n ∨ 0 ≤ n ∧ n < num by omega) with q | ⟨q, q2⟩ | ⟨q, q2⟩
      · simp -implicitDefEqProofs -dsimp (disch := omega) only [go_sem, dec_t, dec_f, burinref16_May_l0, rc, Int.toNat_natCast, Nat.mul_one, rl]
        exact hret (by rw [← hin, hd, dec_f (by omega)]; rfl) _
      · simp -implicitDefEqProofs -dsimp (disch := omega) only [go_sem, dec_t, dec_f, burinref16_May_l0, rc, Int.toNat_natCast, Nat.mul_one, rl]
        exact hret (by rw [← hin, hd, dec_t (show (-1 : Int) < n by omega), dec_f (show ¬ n < num by omega)]; rfl) _
      · simp -implicitDefEqProofs -dsimp (disch := omega) only [go_sem, dec_t, dec_f, burinref16_May_l0, rc, Int.toNat_natCast, Nat.mul_one, rl, w64, cadd1]
        refine hn (by omega) ⟨rfl, by omega, ?_, by omega, (fun h => by omega), (fun j hj => by rw [show j = 0 by omega]; exact hgi)⟩
        rw [← hin, hd, dec_t (show (-1 : Int) < n by omega), dec_t q2]; rfl
    · obtain ⟨j, rfl⟩ : ∃ j, i = j + 1 := ⟨i - 1, by omega⟩
      have hjj := hj j rfl
      have rj := hr.rd1 (i := j) (by omega)
      rw [i64s, List.getElem?_map, hjj, Option.map_some] at rj
      have ej : ((j + 1 : Nat) : Int) - 1 = (j : Nat) := by omega
      rcases (show n < 0 ∨ 0 ≤ n ∧ num ≤ n ∨ 0 ≤ n ∧ n < num ∧ n ≤ a ∨ 0 ≤ n ∧ n < num ∧ a < n by omega) with q | ⟨q, q2⟩ | ⟨q, q2, q3⟩ | ⟨q, q2, q3⟩
      · simp -implicitDefEqProofs -dsimp (disch := omega) only [go_sem, dec_t, dec_f, burinref16_May_l0, rc, Int.toNat_natCast, Nat.mul_one, rl]
        refine hret ?_ _
        rw [← hin, hd]
        rcases (show n ≤ a ∨ a < n by omega) with k | k
        · rw [dec_f (by omega)]; rfl
        · omega
      · simp -implicitDefEqProofs -dsimp (disch := omega) only [go_sem, dec_t, dec_f, burinref16_May_l0, rc, Int.toNat_natCast, Nat.mul_one, rl]
        refine hret ?_ _
        rw [← hin, hd, dec_f (show ¬ n < num by omega)]
        simp
      · simp -implicitDefEqProofs -dsimp (disch := omega) only [go_sem, dec_t, dec_f, burinref16_May_l0, rc, Int.toNat_natCast, Nat.mul_one, rl, w64, ej, rj]
        exact hret (by rw [← hin, hd, dec_f (by omega)]; rfl) _
      · simp -implicitDefEqProofs -dsimp (disch := omega) only [go_sem, dec_t, dec_f, burinref16_May_l0, rc, Int.toNat_natCast, Nat.mul_one, rl, w64, ej, rj, cadd1]
        refine hn (by omega) ⟨rfl, by omega, ?_, by omega, (fun h => by omega), (fun k hk => by rw [show k = j + 1 by omega]; exact hgi)⟩
        rw [← hin, hd, dec_t q3, dec_t q2]; rfl
  · have hi' : i = l.length := by omega
    subst hi'
    rw [List.drop_length, incrF] at hin
    rw [hvs] at rc
    simp -implicitDefEqProofs -dsimp (disch := omega) only [go_sem, dec_t, dec_f, burinref16_May_l0, rc]
    rw [hx]
    exact h1 hin.symm _
set_option maxHeartbeats 2000000 in
theorem mayR_ct (hp : HasRf16 P) {v1 v2 v3 : V} {s : Sg} (h : SgR H v1 v2 v3 s) (hQ : ∀ H', Same (fun _ => False) H H' → Q (.ret (.bool (mayB s))) H') : Call P 170 [.agg (s.cells v1 v2 v3)] H Q := by
  obtain ⟨num, kind, page, refs, keep, stay, data⟩ := s
  obtain ⟨hr, hk, hd, ho⟩ := h
  dsimp only at hr hk hd
  obtain ⟨a1, c1, e1, rfl⟩ := hr.shape
  obtain ⟨a2, c2, e2, rfl⟩ := hk.shape
  obtain ⟨a3, c3, e3, rfl⟩ := hd.shape
  have l1 := ho.l1
  have l2 := ho.l2
  have l3 := ho.l3
  dsimp only at l1 l2 l3
  refine call_of hp.h_burinref16_May rfl ?_
  have g1 := (Hs.start H).alloc (l := [.int .i64 num, .int .i64 kind, .int .i64 page, .sl a1 refs.length c1 e1, .sl a2 keep.length c2 e2, .bool stay, .sl a3 data.length c3 e3])
  have r1 := rd_s g1.cel
  have cc := g1.cel
  have sm := g1.tail.base
  have hrr := hr.same sm fun _ _ h => h
  unfold Sg.cells
  have fl := fun (k : ¬ May ⟨num, kind, page, refs, keep, stay, data⟩) => (show Q (.ret (.bool false)) _ from by rw [← mayB_f k]; exact hQ _ sm)
  have tr := fun (k : May ⟨num, kind, page, refs, keep, stay, data⟩) => (show Q (.ret (.bool true)) _ from by rw [← mayB_t k]; exact hQ _ sm)
  have n0 := fun m : May ⟨num, kind, page, refs, keep, stay, data⟩ => m.n0
  have n1 := fun m : May ⟨num, kind, page, refs, keep, stay, data⟩ => m.n1
  have nk := fun m : May ⟨num, kind, page, refs, keep, stay, data⟩ => m.kind
  have np := fun m : May ⟨num, kind, page, refs, keep, stay, data⟩ => m.page
  have nkp := fun m : May ⟨num, kind, page, refs, keep, stay, data⟩ => m.keep
  have nr := fun m : May ⟨num, kind, page, refs, keep, stay, data⟩ => m.refs
  have ns := fun m : May ⟨num, kind, page, refs, keep, stay, data⟩ => m.stay
  have nd := fun m : May ⟨num, kind, page, refs, keep, stay, data⟩ => m.data
  have nm := fun m : May ⟨num, kind, page, refs, keep, stay, data⟩ => m.most
  have ni := fun m : May ⟨num, kind, page, refs, keep, stay, data⟩ => m.incr
  dsimp only at n0 n1 nk np nkp nr ns nd nm ni
  unfold kindOk at nk
  rcases (show num < 0 ∨ (0 ≤ num ∧ 32768 ≤ num) ∨ (0 ≤ num ∧ num < 32768 ∧ kind < 1) ∨ (0 ≤ num ∧ num < 32768 ∧ 1 ≤ kind ∧ 7 < kind) ∨ (0 ≤ num ∧ num < 32768 ∧ 1 ≤ kind ∧ kind ≤ 7) by omega) with q | ⟨q, q2⟩ | ⟨q, q2, q3⟩ | ⟨q, q2, q3, q4⟩ | ⟨q, q2, q3, q4⟩
  · simp -implicitDefEqProofs -dsimp (disch := omega) only [go_sem, dec_t, dec_f, r1]
    exact fl fun m => by have := n0 m; omega
  · simp -implicitDefEqProofs -dsimp (disch := omega) only [go_sem, dec_t, dec_f, r1]
    exact fl fun m => by have := n1 m; omega
  · simp -implicitDefEqProofs -dsimp (disch := omega) only [go_sem, dec_t, dec_f, r1]
    exact fl fun m => by have := nk m; omega
  · simp -implicitDefEqProofs -dsimp (disch := omega) only [go_sem, dec_t, dec_f, r1]
    exact fl fun m => by have := nk m; omega
  simp -implicitDefEqProofs -dsimp (disch := omega) only [go_sem, dec_t, dec_f, r1]
  refine pagedR_ct hp ?_
  have pp : pagedP (pageK kind) page ↔ pgLo kind ≤ page ∧ page ≤ pgHi kind := by
    rcases (show kind = 7 ∨ kind = 2 ∨ (kind ≠ 7 ∧ kind ≠ 2) by omega) with rfl | rfl | ⟨k1, k2⟩
    · rw [show pageK 7 = 0 from rfl, show pgLo 7 = 0 from rfl, show pgHi 7 = 0 from rfl]; unfold pagedP; omega
    · rw [show pageK 2 = 1 from rfl, show pgLo 2 = 0 from rfl, show pgHi 2 = 64 from rfl]; unfold pagedP; omega
    · unfold pagedP pageK pgLo pgHi
      rw [if_neg k1, if_neg k2, if_neg k1, if_neg (by omega)]; omega
  by_cases ip : pgLo kind ≤ page ∧ page ≤ pgHi kind
  rotate_left
  · have no := fl fun m => ip (pp.1 (np m))
    rcases (show page < pgLo kind ∨ (pgLo kind ≤ page ∧ pgHi kind < page) by omega) with k | ⟨k, k2⟩
    · simp -implicitDefEqProofs -dsimp (disch := omega) only [go_sem, dec_t, dec_f, r1]
      exact no
    · simp -implicitDefEqProofs -dsimp (disch := omega) only [go_sem, dec_t, dec_f, r1]
      exact no
  obtain ⟨ip1, ip2⟩ := ip
  generalize pgLo kind = lo at *
  generalize pgHi kind = hi at *
  have lp := fun (k1 : 0 < refs.length → refsK kind) (k2 : keep.length = refs.length) (k3 : stay = true → kind = 2) (k4 : data.length ≤ 67108864) (ki : incrF num (-1) refs = true) (kd : 0 < data.length → dataK kind) => tr ⟨q, q2, ⟨q3, q4⟩, pp.2 ⟨ip1, ip2⟩, k2, k1, k3, kd, k4, ki⟩
  have lf := fun ki : incrF num (-1) refs = false => fl fun m => by have := ni m; rw [ki] at this; cases this
  clear tr np pp
  by_cases il : keep.length = refs.length
  rotate_left
  · have no := fl fun m => il (nkp m)
    by_cases z : 0 < refs.length
    · by_cases ir : refsK kind
      · simp -implicitDefEqProofs -dsimp (disch := omega) only [go_sem, dec_t, dec_f, r1]
        refine refers_ct hp ?_
        rw [dec_t ir]
        simp -implicitDefEqProofs -dsimp (disch := omega) only [go_sem, dec_t, dec_f, r1]
        exact no
      · simp -implicitDefEqProofs -dsimp (disch := omega) only [go_sem, dec_t, dec_f, r1]
        refine refers_ct hp ?_
        rw [dec_f ir]
        simp -implicitDefEqProofs -dsimp (disch := omega) only [go_sem, dec_t, dec_f, r1]
        exact no
    · simp -implicitDefEqProofs -dsimp (disch := omega) only [go_sem, dec_t, dec_f, r1]
      exact no
  by_cases ir : 0 < refs.length ∧ ¬ refsK kind
  · simp -implicitDefEqProofs -dsimp (disch := omega) only [go_sem, dec_t, dec_f, r1, ir.1]
    refine refers_ct hp ?_
    rw [dec_f ir.2]
    simp -implicitDefEqProofs -dsimp (disch := omega) only [go_sem, dec_t, dec_f, r1]
    exact fl fun m => ir.2 (nr m ir.1)
  have ir : 0 < refs.length → refsK kind := fun k => Classical.not_not.1 fun k2 => ir ⟨k, k2⟩
  have stp : ∀ {G : Prop}, (refs.length = 0 → G) → (0 < refs.length → refsK kind → G) → G := fun a b => by
    rcases Nat.eq_zero_or_pos refs.length with z | z
    · exact a z
    · exact b z (ir z)
  by_cases is : stay = true ∧ kind ≠ 2
  · obtain ⟨rfl, is⟩ := is
    have no := fl fun m => is (ns m rfl)
    refine stp (fun z => ?_) fun z z2 => ?_
    · simp -implicitDefEqProofs -dsimp (disch := omega) only [go_sem, dec_t, dec_f, r1]
      exact no
    · simp -implicitDefEqProofs -dsimp (disch := omega) only [go_sem, dec_t, dec_f, r1]
      refine refers_ct hp ?_
      rw [dec_t z2]
      simp -implicitDefEqProofs -dsimp (disch := omega) only [go_sem, dec_t, dec_f, r1]
      exact no
  have is : stay = true → kind = 2 := fun k => Classical.not_not.1 fun k2 => is ⟨k, k2⟩
  have lend : incrF num (-1) refs = true → data.length ≤ 67108864 → (0 < data.length → dataK kind) → Q (.ret (.bool true)) _ := fun k1 k2 k3 => lp ir il is k2 k1 k3
  have ldf : (0 < data.length ∧ ¬ dataK kind) → Q (.ret (.bool false)) _ := fun kd => fl fun m => kd.2 (nd m kd.1)
  have lm : ¬ data.length ≤ 67108864 → Q (.ret (.bool false)) _ := fun k => fl fun m => k (nm m)
  clear lp fl
  by_cases im : data.length ≤ 67108864
  rotate_left
  · have no := lm im
    refine stp (fun z => ?_) fun z z2 => ?_
    · cases hst : stay
      · subst hst
        simp -implicitDefEqProofs -dsimp (disch := omega) only [go_sem, dec_t, dec_f, r1]
        exact no
      · have := is hst
        subst hst this
        simp -implicitDefEqProofs -dsimp (disch := omega) only [go_sem, dec_t, dec_f, r1]
        exact no
    · cases hst : stay
      · subst hst
        simp -implicitDefEqProofs -dsimp (disch := omega) only [go_sem, dec_t, dec_f, r1]
        refine refers_ct hp ?_
        rw [dec_t z2]
        simp -implicitDefEqProofs -dsimp (disch := omega) only [go_sem, dec_t, dec_f, r1]
        exact no
      · have := is hst
        subst hst this
        simp -implicitDefEqProofs -dsimp (disch := omega) only [go_sem, dec_t, dec_f, r1]
        refine refers_ct hp ?_
        rw [dec_t z2]
        simp -implicitDefEqProofs -dsimp (disch := omega) only [go_sem, dec_t, dec_f, r1]
        exact no
  have tail : ∀ {Qp : Post} {s' t'}, (incrF num (-1) refs = true → ∀ ex, Qp (.exit 0) ⟨(1, .ptr (some (H.next, 0))) :: ex, []⟩ _) → (incrF num (-1) refs = false → ∀ ex, Qp .ret ⟨(2, .bool false) :: ex, []⟩ _) → loopL (Call P) [1, 5] burinref16_May_l0 Qp s' t' (myF H.next (0, -1)) _ := fun a b => may_loop (va := .int .i64 kind) (vb := .int .i64 page) (vc := .sl a2 keep.length c2 e2) (vd := .bool stay) hrr l1 cc a b
  refine stp (fun z => ?_) fun z z2 => ?_
  · cases hst : stay
    · subst hst
      simp -implicitDefEqProofs -dsimp (disch := omega) only [go_sem, dec_t, dec_f, r1]
      refine tail (fun k ex => ?_) (fun k ex => ?_)
      · by_cases dk : dataK kind
        · have ld := lend k im fun _ => dk
          unfold dataK at dk
          simp -implicitDefEqProofs -dsimp (disch := omega) only [go_sem, dec_t, dec_f, r1]
          exact ld
        · unfold dataK at dk
          rcases (show kind = 6 ∨ kind = 7 by omega) with k6 | k6
          all_goals
            rcases (show data.length = 0 ∨ 0 < data.length by omega) with d0 | d0
            · have ld := lend k im fun h => by omega
              simp -implicitDefEqProofs -dsimp (disch := omega) only [go_sem, dec_t, dec_f, r1]
              exact ld
            · have ld := ldf ⟨d0, by unfold dataK; omega⟩
              simp -implicitDefEqProofs -dsimp (disch := omega) only [go_sem, dec_t, dec_f, r1]
              exact ld
      · simp -implicitDefEqProofs -dsimp (disch := omega) only [go_sem, dec_t, dec_f, ]
        exact lf k
    · have := is hst
      subst hst this
      simp -implicitDefEqProofs -dsimp (disch := omega) only [go_sem, dec_t, dec_f, r1]
      refine tail (fun k ex => ?_) (fun k ex => ?_)
      · have ld := lend k im fun _ => (by unfold dataK; omega)
        simp -implicitDefEqProofs -dsimp (disch := omega) only [go_sem, dec_t, dec_f, r1]
        exact ld
      · simp -implicitDefEqProofs -dsimp (disch := omega) only [go_sem, dec_t, dec_f, ]
        exact lf k
  · cases hst : stay
    · subst hst
      simp -implicitDefEqProofs -dsimp (disch := omega) only [go_sem, dec_t, dec_f, r1]
      refine refers_ct hp ?_
      rw [dec_t z2]
      simp -implicitDefEqProofs -dsimp (disch := omega) only [go_sem, dec_t, dec_f, r1]
      refine tail (fun k ex => ?_) (fun k ex => ?_)
      · by_cases dk : dataK kind
        · have ld := lend k im fun _ => dk
          unfold dataK at dk
          simp -implicitDefEqProofs -dsimp (disch := omega) only [go_sem, dec_t, dec_f, r1]
          exact ld
        · unfold dataK at dk
          rcases (show kind = 6 ∨ kind = 7 by omega) with k6 | k6
          all_goals
            rcases (show data.length = 0 ∨ 0 < data.length by omega) with d0 | d0
            · have ld := lend k im fun h => by omega
              simp -implicitDefEqProofs -dsimp (disch := omega) only [go_sem, dec_t, dec_f, r1]
              exact ld
            · have ld := ldf ⟨d0, by unfold dataK; omega⟩
              simp -implicitDefEqProofs -dsimp (disch := omega) only [go_sem, dec_t, dec_f, r1]
              exact ld
      · simp -implicitDefEqProofs -dsimp (disch := omega) only [go_sem, dec_t, dec_f, ]
        exact lf k
    · have := is hst
      subst hst this
      simp -implicitDefEqProofs -dsimp (disch := omega) only [go_sem, dec_t, dec_f, r1]
      refine refers_ct hp ?_
      rw [dec_t z2]
      simp -implicitDefEqProofs -dsimp (disch := omega) only [go_sem, dec_t, dec_f, r1]
      refine tail (fun k ex => ?_) (fun k ex => ?_)
      · have ld := lend k im fun _ => (by unfold dataK; omega)
        simp -implicitDefEqProofs -dsimp (disch := omega) only [go_sem, dec_t, dec_f, r1]
        exact ld
      · simp -implicitDefEqProofs -dsimp (disch := omega) only [go_sem, dec_t, dec_f, ]
        exact lf k
end
end Go.Ab
namespace Go.Ab
section
variable {P : Prog} {H : Heap} {R : List As} {Q : Out → Heap → Prop}
/-- Groups, laid behind a list. -/
theorem grp_on {v : V} {B : List Nat} {n : Nat} {v2 : V} {H2 : Heap} (hs : Hs H (Lst v 1 B.length (u8s B) :: R)) (hb : Bytes H2 v2 (groups n)) (sm : Same (fun _ => False) H H2) (hl : B.length ≤ 1000000) (hn : n < 18446744073709551616) :
    ∃ v3 H3, app H2 1 1 v v2 = some (v3, H3) ∧ Hs H3 (Lst v3 1 (B ++ groups n).length (u8s (B ++ groups n)) :: R) := by
  have hg := groups_le hn
  have h2 := hs.keep sm
  obtain ⟨v3, H3, ha, ho, s3, f3⟩ := app_own (eb := 1) h2.own (firsts_arr hb.arr) (by simp [u8s]) (u8s_one _) (by omega) (by omega)
  have h3 := h2.lst' s3 ho f3
  rw [show u8s B ++ u8s (groups n) = u8s (B ++ groups n) by simp [u8s], ← List.length_append] at h3
  exact ⟨v3, H3, ha, h3⟩
structure ErX where
  i : Nat
  v : V
def ErX.fr (b1 w : Nat) (x : ErX) : Fr := ⟨[(1, .ptr (some (b1, 0))), (4, x.v), (5, .ptr (some (w, 0))), (6, .int .i64 (x.i : Nat))], []⟩
theorem rfB_one (l : List Int) {i : Nat} (hi : i < l.length) : rfB (l.take (i + 1)) = rfB (l.take i) ++ groups l[i].toNat := rfB_snoc l hi
set_option maxHeartbeats 1000000 in
theorem encR_loop (hp : HasRf16 P) (hb : HasRefBits P) {b1 w : Nat} {va vb vd ve : V} {v1 v2 v0 : V} {num : Int} {refs : List Int} {keep : List Bool} {B : List Nat} (hR : ∀ H', Hs H' R → Arr H' v1 1 refs.length (i64s refs) ∧ Arr H' v2 1 keep.length (bools keep))
    (hk : keep.length = refs.length) (hl : refs.length ≤ 32768) (hn : ∀ n ∈ refs, 0 ≤ n ∧ n < 32768) (hB : B.length ≤ 1000)
    (hs : Hs H (Lst v0 1 B.length (u8s B) :: RWA w [] 67108864 :: Cel b1 [.int .i64 num, va, vb, v1, v2, vd, ve] :: R)) {Qp : Post} {s' t'}
    (h1 : ∀ v H' ex, Hs H' (Lst v 1 (B ++ rfB refs).length (u8s (B ++ rfB refs)) :: RWA w keep 67108864 :: Cel b1 [.int .i64 num, va, vb, v1, v2, vd, ve] :: R) → Qp (.exit 0) ⟨(1, .ptr (some (b1, 0))) :: (4, v) :: (5, .ptr (some (w, 0))) :: ex, []⟩ H') :
    loopL (Call P) [1, 4, 5, 6] burinref16_Encode_l0 Qp s' t' (ErX.fr b1 w ⟨0, v0⟩) H := by
  refine loop_dec (σ := ErX) (fun x => refs.length - x.i) (ErX.fr b1 w) (fun x H => x.i ≤ refs.length ∧ Hs H (Lst x.v 1 (B ++ rfB (refs.take x.i)).length (u8s (B ++ rfB (refs.take x.i))) :: RWA w (keep.take x.i) 67108864 :: Cel b1 [.int .i64 num, va, vb, v1, v2, vd, ve] :: R)) (fun x H K ok hn' hx hy => ?_) ⟨0, v0⟩ H ⟨Nat.zero_le _, by simpa [rfB] using hs⟩
  obtain ⟨i, v⟩ := x
  obtain ⟨hi, h⟩ := ok
  dsimp only at hi h hn'
  obtain ⟨ha, hkk⟩ := hR H h.tail.tail.tail
  have rc := rd_s (Hs.p2 h).cel
  obtain ⟨a1, c1, e1, hv1⟩ := ha.shape
  unfold ErX.fr
  by_cases hlt : i < refs.length
  · obtain ⟨b, o, c, rfl, rl⟩ := arr_int ha hlt
    clear hv1
    have hx1 := rfB_one refs hlt
    have hx2 := List.take_succ_eq_append_getElem (l := keep) (i := i) (by omega)
    have h3 := hn _ (List.getElem_mem hlt)
    have hB2 := rfB_len (l := refs.take i) fun m hm => hn m (List.mem_of_mem_take hm)
    rw [List.length_take, Nat.min_eq_left hi] at hB2
    generalize refs[i] = n at *
    obtain ⟨m, rfl⟩ : ∃ m : Nat, n = (m : Nat) := ⟨n.toNat, by omega⟩
    rw [Int.toNat_natCast] at hx1
    simp -implicitDefEqProofs -dsimp (disch := omega) only [go_sem, dec_t, dec_f, burinref16_Encode_l0, rc, Int.toNat_natCast, Nat.mul_one, rl, wu64]
    refine groups_ct hb (by omega) fun g H2 hb2 s2 f2 => ?_
    obtain ⟨v3, H3, ha3, g3⟩ := grp_on h hb2 s2 (by rw [List.length_append]; omega) (by omega)
    obtain ⟨ga, gc, ge, rfl⟩ := hb2.arr.shape
    have rc3 := rd_s (Hs.p2 g3).cel
    obtain ⟨_, hk3⟩ := hR H3 g3.tail.tail.tail
    obtain ⟨kb, ko, kc, hkv, rk⟩ := arr_bool hk3 (i := i) (by omega)
    rw [hkv] at rc3
    simp -implicitDefEqProofs -dsimp (disch := omega) only [go_sem, dec_t, dec_f, ha3, rc3, Int.toNat_natCast, Nat.mul_one, rk]
    generalize keep[i] = kb at *
    refine bitR_ct hp ?_
    simp -implicitDefEqProofs -dsimp (disch := omega) only [go_sem, dec_t, dec_f, ]
    refine rwPutA hb (Hs.p1 g3) (by cases kb <;> decide) (by decide) fun H4 g4 => ?_
    rw [wPut_bit kb (by rw [List.length_take]; omega)] at g4
    simp -implicitDefEqProofs -dsimp (disch := omega) only [go_sem, dec_t, dec_f, w64, cadd1]
    refine hn' ⟨i + 1, v3⟩ H4 (by dsimp only; omega) ⟨by dsimp only; omega, ?_⟩
    dsimp only
    rw [hx1, hx2, ← List.append_assoc]
    exact Hs.p1 g4
  · have : i = refs.length := by omega
    subst this
    rw [List.take_length, ← hk, List.take_length] at h
    rw [hv1] at rc
    simp -implicitDefEqProofs -dsimp (disch := omega) only [go_sem, dec_t, dec_f, burinref16_Encode_l0, rc]
    rw [hx]
    exact h1 _ H _ h
theorem toRWA {w most : Nat} (h : Hs H (Cel w [.int .i64 most, .sl none 0 0 0] :: R)) (hm : most ≤ 67108864) : Hs H (RWA w [] most :: R) :=
  h.step fun F ⟨h1, h2, h3⟩ => ⟨fun _ => False, F, Same.refl _ _, fun _ _ h => h.elim, ⟨.sl none 0 0 0, fun b => (h1 b).trans ⟨Or.inl, fun h => h.elim id False.elim⟩, ⟨h2, own_nil _ _, h3, fun h => h, by simp, hm⟩⟩, fun _ h => Or.inl h⟩
set_option maxHeartbeats 2000000 in
theorem encR_ct (hp : HasRf16 P) (hb : HasRefBits P) {v1 v2 v3 : V} {s : Sg} (hR : ∀ H', Hs H' R → SgR H' v1 v2 v3 s) (hs : Hs H R)
    (h1 : May s → ∀ v' H', Hs H' (Lst v' 1 (hdr s).length (u8s (hdr s)) :: R) → Q (.ret (.tup [v', .int .i64 0])) H') (h2 : ¬ May s → ∀ H', Hs H' R → Q (.ret (.tup [.sl none 0 0 0, .int .i64 161])) H') : Call P 172 [.agg (s.cells v1 v2 v3)] H Q := by
  refine call_of hp.h_burinref16_Encode rfl ?_
  have hr0 := hR H hs
  have hR' := fun H' h => hR H' h
  obtain ⟨a1, c1, e1, rfl⟩ := hr0.refs.shape
  obtain ⟨a2, c2, e2, rfl⟩ := hr0.keep.shape
  obtain ⟨a3, c3, e3, rfl⟩ := hr0.data.shape
  have g1 := hs.alloc (l := s.cells (.sl a1 s.refs.length c1 e1) (.sl a2 s.keep.length c2 e2) (.sl a3 s.data.length c3 e3))
  have cm := rd_m g1.cel 7
  have c0 := rd_s g1.cel
  obtain ⟨num, kind, page, refs, keep, stay, data⟩ := s
  unfold Sg.cells at g1 cm c0 ⊢
  dsimp only at *
  simp -implicitDefEqProofs -dsimp (disch := omega) only [go_sem, dec_t, dec_f, cm]
  generalize H.new _ = H1 at *
  generalize H.next = b1 at *
  have hr1 := hR' _ g1.tail
  refine mayR_ct hp hr1 fun H2 s2 => ?_
  have g2 := g1.keep s2
  by_cases hm : May ⟨num, kind, page, refs, keep, stay, data⟩
  rotate_left
  · rw [mayB_f hm]
    simp -implicitDefEqProofs -dsimp (disch := omega) only [go_sem, dec_t, dec_f, ]
    exact h2 hm _ g2.tail
  rw [mayB_t hm]
  have n0 := hm.n0
  have n1 := hm.n1
  have nk := hm.kind
  have npg := hm.page
  have nl := may_len hm
  have nkp := hm.keep
  have nin := hm.incr
  have nd := hm.most
  unfold kindOk at nk
  unfold pagedP at npg
  dsimp only at n0 n1 nk npg nl nkp nin nd
  have nrf : ∀ n ∈ refs, 0 ≤ n ∧ n < 32768 := fun n h => by have := incr_all nin n h; omega
  have npg2 : 0 ≤ page ∧ page ≤ 64 := by omega
  clear npg
  obtain ⟨kn, rfl⟩ : ∃ k : Nat, num = (k : Nat) := ⟨num.toNat, by omega⟩
  obtain ⟨kk, rfl⟩ : ∃ k : Nat, kind = (k : Nat) := ⟨kind.toNat, by omega⟩
  obtain ⟨kp, rfl⟩ : ∃ k : Nat, page = (k : Nat) := ⟨page.toNat, by omega⟩
  have c2' := rd_s g2.cel
  have lk := groups_le (n := kn) (by omega)
  have lp := groups_le (n := kp) (by omega)
  have lr := groups_le (n := refs.length) (by omega)
  have lrf := rfB_len nrf
  simp -implicitDefEqProofs -dsimp (disch := omega) only [go_sem, dec_t, dec_f, c2', wu64, wu8]
  have g3 := g2.alloc (l := [.int .u8 (kk : Nat)])
  have cb := g3.cel
  have c3' := rd_s (Hs.p1 g3).cel
  refine groups_ct hb (by omega) fun x1 H4 b4 s4 f4 => ?_
  have g4 := g3.lst s4 b4 f4
  have cb4 := (Hs.p1 g4).cel
  have c4 := rd_s (Hs.p2 g4).cel
  have fb := firsts_arr ((Hs.p1 g4).toLst (n := 1) (e := 1) rfl).own.arr
  obtain ⟨x2, H5, ha5, o5, s5, f5⟩ := app_own (eb := 1) g4.own fb rfl rfl (by omega) (by omega)
  have g5 := g4.lst' s5 o5 f5
  have g5 := (Hs.p1 g5).tail
  rw [show u8s (groups kn) ++ [V.int .u8 (kk : Nat)] = u8s (groups kn ++ [kk]) by simp [u8s], show (groups kn).length + 1 = (groups kn ++ [kk]).length by simp] at g5
  obtain ⟨xa, xc, xe, rfl⟩ := b4.arr.shape
  simp -implicitDefEqProofs -dsimp (disch := omega) only [go_sem, dec_t, dec_f, ]
  refine aft_intro (t := tag _) (by simp [rechecks, recheck, fresh, Fr.get, Fr.put, look, step, opd, c4, cb4, parts2, fillA, reps, over, V.cells]) ?_
  have c5 := rd_s (Hs.p1 g5).cel
  simp -implicitDefEqProofs -dsimp (disch := omega) only [go_sem, dec_t, dec_f, ha5, c5, wu64]
  refine groups_ct hb (by omega) fun x3 H6 b6 s6 f6 => ?_
  obtain ⟨x4, H7, ha7, g7⟩ := grp_on g5 b6 s6 (by rw [List.length_append, List.length_singleton]; omega) (by omega)
  obtain ⟨ya, yc, ye, rfl⟩ := b6.arr.shape
  have c7 := rd_s (Hs.p1 g7).cel
  simp -implicitDefEqProofs -dsimp (disch := omega) only [go_sem, dec_t, dec_f, ha7, c7, wu64]
  refine groups_ct hb (by omega) fun x5 H8 b8 s8 f8 => ?_
  obtain ⟨x6, H9, ha9, g9⟩ := grp_on g7 b8 s8 (by simp only [List.length_append, List.length_singleton]; omega) (by omega)
  obtain ⟨za, zc, ze, rfl⟩ := b8.arr.shape
  have g10 := toRWA (g9.alloc (l := [.int .i64 ((67108864 : Nat) : Int), .sl none 0 0 0])) (by omega)
  rw [show ((67108864 : Nat) : Int) = 67108864 from rfl] at g10
  simp -implicitDefEqProofs -dsimp (disch := omega) only [go_sem, dec_t, dec_f, ha9]
  refine encR_loop (va := .int .i64 (kk : Nat)) (vb := .int .i64 (kp : Nat)) (vd := .bool stay) (ve := .sl a3 data.length c3 e3) (v1 := .sl a1 refs.length c1 e1) (v2 := .sl a2 keep.length c2 e2) (num := (kn : Nat)) (refs := refs) (keep := keep) hp hb (fun H' h => ⟨(hR' H' h).refs, (hR' H' h).keep⟩) nkp (by omega) nrf (by simp only [List.length_append, List.length_singleton]; omega) (Hs.p1 g10) fun x7 H11 ex g11 => ?_
  have c11 := rd_s (Hs.p2 g11).cel
  simp -implicitDefEqProofs -dsimp (disch := omega) only [go_sem, dec_t, dec_f, c11]
  refine bitR_ct hp ?_
  simp -implicitDefEqProofs -dsimp (disch := omega) only [go_sem, dec_t, dec_f, ]
  refine rwPutA hb (Hs.p1 g11) (by cases stay <;> decide) (by decide) fun H12 g12 => ?_
  rw [wPut_bit stay (by omega)] at g12
  simp -implicitDefEqProofs -dsimp (disch := omega) only [go_sem, dec_t, dec_f, ]
  refine rwBytesA hb g12 fun x8 H13 g13 => ?_
  have g14 := Hs.p2 g13
  have hpk := pack_length (keep ++ [stay])
  rw [List.length_append, List.length_singleton] at hpk
  obtain ⟨x9, H15, ha15, o15, s15, f15⟩ := app_own (eb := 1) g14.own (firsts_arr (Hs.p1 g14).own.arr) (by simp [u8s]) (u8s_one _) (by omega) (by simp only [List.length_append, List.length_singleton]; omega)
  have g15 := g14.lst' s15 o15 f15
  have eA : groups kn ++ [kk] ++ groups kp ++ groups refs.length ++ rfB refs = hdA ⟨(kn : Nat), (kk : Nat), (kp : Nat), refs, keep, stay, data⟩ := by
    unfold hdA rfB; simp only [Int.toNat_natCast]
  rw [show u8s (groups kn ++ [kk] ++ groups kp ++ groups refs.length ++ rfB refs) ++ u8s (pack (keep ++ [stay])) = u8s (hdA ⟨(kn : Nat), (kk : Nat), (kp : Nat), refs, keep, stay, data⟩ ++ pack (keep ++ [stay])) by rw [← eA]; simp [u8s],
    show (groups kn ++ [kk] ++ groups kp ++ groups refs.length ++ rfB refs).length + (pack (keep ++ [stay])).length = (hdA ⟨(kn : Nat), (kk : Nat), (kp : Nat), refs, keep, stay, data⟩ ++ pack (keep ++ [stay])).length by rw [← eA]; simp only [List.length_append]] at g15
  have lA : (hdA ⟨(kn : Nat), (kk : Nat), (kp : Nat), refs, keep, stay, data⟩).length ≤ 400000 := by rw [← eA]; simp only [List.length_append, List.length_singleton]; omega
  obtain ⟨pa, pc, pe, rfl⟩ := (Hs.p1 g14).own.arr.shape
  have c15 := rd_s (Hs.p3 g15).cel
  simp -implicitDefEqProofs -dsimp (disch := omega) only [go_sem, dec_t, dec_f, ha15, c15, wu64]
  refine groups_ct hb (by omega) fun x10 H16 b16 s16 f16 => ?_
  obtain ⟨x11, H17, ha17, g17⟩ := grp_on g15 b16 s16 (by rw [List.length_append]; omega) (by omega)
  obtain ⟨qa, qc, qe, rfl⟩ := b16.arr.shape
  simp -implicitDefEqProofs -dsimp (disch := omega) only [go_sem, dec_t, dec_f, ha17]
  refine h1 hm x11 _ ?_
  unfold hdr
  exact (Hs.p1 (Hs.p1 (Hs.p1 g17).tail).tail).tail
end
end Go.Ab
namespace Go.Ab
section
variable {P : Prog} {H : Heap} {R : List As} {Q : Out → Heap → Prop}
theorem copyInts_ct (hp : HasRf16 P) {x : V} {l : List Int} (hx : Arr H x 1 l.length (i64s l)) (hl : l.length ≤ 1000000) (hs : Hs H R) (hQ : ∀ v H', Hs H' (Lst v 1 l.length (i64s l) :: R) → Q (.ret v) H') : Call P 173 [x] H Q := by
  refine call_of hp.h_burinref0_CopyInts rfl ?_
  obtain ⟨v', H', h1, h2, h3, h4⟩ := app_nil (H := H) (e := 1) (eb := 8) (firsts_arr hx) (by simp [i64s]) (by simp [i64s, one]) (by omega)
  simp -implicitDefEqProofs -dsimp (disch := omega) only [go_sem, dec_t, dec_f, h1]
  exact hQ v' H' (hs.lst h3 h2 h4)
end
end Go.Ab
namespace Go.Ab
-- burinlaw17_FileWrites: 234, parameters ?; loops burinlaw17_FileWrites_l0 [1 ?, 3 ?]; burinlaw17_FileWrites_l1 [1 ?, 3 ?, 4 ?, 5 ?]
-- burinlaw17_light: 233, parameters l; loops burinlaw17_light_l0 [0 l, 3 n, 4 i]
-- burinref0_EqSegments: 232, parameters a b; loops burinref0_EqSegments_l0 [0 a, 1 b, 5 i]
def burinlaw17_FileWrites_l1 : Cd := .seq (.seq (.reg false [1, 3, 4, 5, 35] [⟨some 34, .mv (.t 5), none, 0, []⟩,
    ⟨some 35, .bin .lss .num (.t 34) (.c (.int .i64 2)), none, 0, []⟩])
  (.cond (.t 35) (.skip)
  (.exit 2)))
  (.seq (.block 3 (.seq (.reg false [1, 3, 4, 5, 6, 7] [⟨some 39, .mv (.t 4), none, 0, []⟩,
    ⟨some 40, .mv (.t 5), none, 0, []⟩,
    ⟨some 41, .bin .eql .num (.t 40) (.c (.int .i64 1)), none, 0, []⟩,
    ⟨some 42, .call (.f 200) [(.t 39), (.t 41)], none, 0, []⟩,
    ⟨some 38, .mv (.t 42), none, 0, []⟩,
    ⟨some 43, .ext 0 (.t 38), none, 0, []⟩,
    ⟨some 44, .ext 1 (.t 38), none, 0, []⟩,
    ⟨some 6, .mv (.t 43), none, 0, []⟩,
    ⟨some 7, .mv (.t 44), none, 0, []⟩])
  (.seq (.reg false [1, 3, 4, 5, 6, 7, 8, 9] [⟨some 46, .fad 0 (.t 1), none, 0, []⟩,
    ⟨some 47, .load none (.t 46), none, 0, []⟩,
    ⟨some 48, .mv (.t 3), none, 0, []⟩,
    ⟨some 49, .iad none 1 (.t 47) (.t 48), none, 0, []⟩,
    ⟨some 50, .load none (.t 49), none, 0, []⟩,
    ⟨some 51, .mv (.t 5), none, 0, []⟩,
    ⟨some 52, .bin .eql .num (.t 51) (.c (.int .i64 1)), none, 0, []⟩,
    ⟨some 53, .call (.f 228) [(.t 50), (.t 52)], none, 0, []⟩,
    ⟨some 45, .mv (.t 53), none, 0, []⟩,
    ⟨some 54, .ext 0 (.t 45), none, 0, []⟩,
    ⟨some 55, .ext 1 (.t 45), none, 0, []⟩,
    ⟨some 8, .mv (.t 54), none, 0, []⟩,
    ⟨some 9, .mv (.t 55), none, 0, []⟩])
  (.seq (.reg false [1, 3, 4, 5, 64] [⟨some 56, .mv (.t 7), none, 0, []⟩,
    ⟨some 57, .mv (.t 9), none, 0, []⟩,
    ⟨some 58, .bin .neq .num (.t 56) (.t 57), none, 0, []⟩,
    ⟨some 59, .mv (.t 58), none, 0, []⟩,
    ⟨some 60, .mv (.t 6), some (59, false), 0, []⟩,
    ⟨some 61, .mv (.t 8), some (59, false), 0, []⟩,
    ⟨some 62, .call (.f 26) [(.t 60), (.t 61)], some (59, false), 0, []⟩,
    ⟨some 63, .un .not (.t 62), some (59, false), 0, []⟩,
    ⟨some 64, .pick (.t 59) (.c (.bool true)) (.t 63), none, 0, []⟩])
  (.cond (.t 64) (.seq (.reg false [2] [⟨some 2, .mv (.c (.bool false)), none, 0, []⟩])
  (.ret))
  (.skip))))))
  (.reg false [1, 3, 4, 5] [⟨some 36, .mv (.t 5), none, 0, []⟩,
    ⟨some 37, .bin .add .num (.t 36) (.c (.int .i64 1)), none, 0, []⟩,
    ⟨some 5, .mv (.t 37), none, 0, []⟩]))
def burinlaw17_FileWrites_l0 : Cd := .seq (.seq (.reg false [1, 3, 18] [⟨some 10, .mv (.t 3), none, 0, []⟩,
    ⟨some 11, .fad 0 (.t 1), none, 0, []⟩,
    ⟨some 12, .load none (.t 11), none, 0, []⟩,
    ⟨some 13, .len none (.t 12), none, 0, []⟩,
    ⟨some 14, .bin .lss .num (.t 10) (.t 13), none, 0, []⟩,
    ⟨some 15, .mv (.t 14), none, 0, []⟩,
    ⟨some 16, .mv (.t 3), some (15, true), 0, []⟩,
    ⟨some 17, .bin .lss .num (.t 16) (.c (.int .i64 4)), some (15, true), 0, []⟩,
    ⟨some 18, .pick (.t 15) (.t 17) (.c (.bool false)), none, 0, []⟩])
  (.cond (.t 18) (.skip)
  (.exit 0)))
  (.seq (.block 1 (.seq (.seq (.reg false [1, 3, 27] [⟨some 21, .fad 0 (.t 1), none, 0, []⟩,
    ⟨some 22, .load none (.t 21), none, 0, []⟩,
    ⟨some 23, .mv (.t 3), none, 0, []⟩,
    ⟨some 24, .iad none 1 (.t 22) (.t 23), none, 0, []⟩,
    ⟨some 25, .load none (.t 24), none, 0, []⟩,
    ⟨some 26, .call (.f 233) [(.t 25)], none, 0, []⟩,
    ⟨some 27, .un .not (.t 26), none, 0, []⟩])
  (.cond (.t 27) (.exit 1)
  (.skip)))
  (.seq (.reg false [1, 3, 4] [⟨some 28, .fad 0 (.t 1), none, 0, []⟩,
    ⟨some 29, .load none (.t 28), none, 0, []⟩,
    ⟨some 30, .mv (.t 3), none, 0, []⟩,
    ⟨some 31, .iad none 1 (.t 29) (.t 30), none, 0, []⟩,
    ⟨some 32, .load none (.t 31), none, 0, []⟩,
    ⟨some 33, .call (.f 174) [(.t 32)], none, 0, []⟩,
    ⟨some 4, .mv (.t 33), none, 0, []⟩])
  (.seq (.seq (.reg false [1, 3, 4, 5] [⟨some 5, .mv (.c (.int .i64 0)), none, 0, []⟩])
  (.block 2 (.loop [1, 3, 4, 5] burinlaw17_FileWrites_l1)))
  (.seq (.reg false [1, 3, 72] [⟨some 65, .mv (.t 4), none, 0, []⟩,
    ⟨some 66, .fad 0 (.t 1), none, 0, []⟩,
    ⟨some 67, .load none (.t 66), none, 0, []⟩,
    ⟨some 68, .mv (.t 3), none, 0, []⟩,
    ⟨some 69, .iad none 1 (.t 67) (.t 68), none, 0, []⟩,
    ⟨some 70, .load none (.t 69), none, 0, []⟩,
    ⟨some 71, .call (.f 232) [(.t 65), (.t 70)], none, 0, []⟩,
    ⟨some 72, .un .not (.t 71), none, 0, []⟩])
  (.cond (.t 72) (.seq (.reg false [2] [⟨some 2, .mv (.c (.bool false)), none, 0, []⟩])
  (.ret))
  (.skip)))))))
  (.reg false [1, 3] [⟨some 19, .mv (.t 3), none, 0, []⟩,
    ⟨some 20, .bin .add .num (.t 19) (.c (.int .i64 1)), none, 0, []⟩,
    ⟨some 3, .mv (.t 20), none, 0, []⟩]))
/-- burin/burinlaw17.FileWrites -/
def burinlaw17_FileWrites : AFun := ⟨1, 74, true, [.t 2],
  .seq (.reg false [1] [⟨some 1, .box 1 (.t 0), none, 0, []⟩,
    ⟨some 2, .mv (.c (.bool false)), none, 0, []⟩])
  (.seq (.seq (.reg false [1, 3] [⟨some 3, .mv (.c (.int .i64 0)), none, 0, []⟩])
  (.block 0 (.loop [1, 3] burinlaw17_FileWrites_l0)))
  (.seq (.reg false [2] [⟨some 73, .call (.f 201) [], none, 0, []⟩,
    ⟨some 2, .mv (.t 73), none, 0, []⟩])
  (.ret)))⟩

def burinlaw17_light_l0 : Cd := .seq (.seq (.reg false [0, 3, 4, 8] [⟨some 5, .mv (.t 4), none, 0, []⟩,
    ⟨some 6, .mv (.t 0), none, 0, []⟩,
    ⟨some 7, .len none (.t 6), none, 0, []⟩,
    ⟨some 8, .bin .lss .num (.t 5) (.t 7), none, 0, []⟩])
  (.cond (.t 8) (.skip)
  (.exit 0)))
  (.seq (.block 1 (.seq (.reg true [0, 3, 4] [⟨some 11, .mv (.t 3), none, 0, []⟩,
    ⟨some 12, .bin .add .num (.t 11) (.c (.int .i64 1)), none, 1, []⟩,
    ⟨some 13, .mv (.t 0), none, 2, []⟩,
    ⟨some 14, .mv (.t 4), none, 3, []⟩,
    ⟨some 15, .iad none 7 (.t 13) (.t 14), none, 4, []⟩,
    ⟨some 16, .fad 6 (.t 15), none, 5, []⟩,
    ⟨some 17, .load none (.t 16), none, 6, []⟩,
    ⟨some 18, .len none (.t 17), none, 7, []⟩,
    ⟨some 19, .bin .add .num (.t 12) (.t 18), none, 8, []⟩,
    ⟨some 20, .mv (.t 0), none, 9, []⟩,
    ⟨some 21, .mv (.t 4), none, 10, []⟩,
    ⟨some 22, .iad none 7 (.t 20) (.t 21), none, 11, []⟩,
    ⟨some 23, .fad 3 (.t 22), none, 12, []⟩,
    ⟨some 24, .load none (.t 23), none, 13, []⟩,
    ⟨some 25, .len none (.t 24), none, 14, []⟩,
    ⟨some 26, .bin .add .num (.t 19) (.t 25), none, 15, []⟩,
    ⟨some 3, .mv (.t 26), none, 16, []⟩])
  (.seq (.reg false [0, 3, 4, 28] [⟨some 27, .mv (.t 3), none, 0, []⟩,
    ⟨some 28, .bin .gtr .num (.t 27) (.c (.int .i64 20000)), none, 0, []⟩])
  (.cond (.t 28) (.seq (.reg false [2] [⟨some 2, .mv (.c (.bool false)), none, 0, []⟩])
  (.ret))
  (.skip)))))
  (.reg false [0, 3, 4] [⟨some 9, .mv (.t 4), none, 0, []⟩,
    ⟨some 10, .bin .add .num (.t 9) (.c (.int .i64 1)), none, 0, []⟩,
    ⟨some 4, .mv (.t 10), none, 0, []⟩]))
/-- burin/burinlaw17.light -/
def burinlaw17_light : AFun := ⟨1, 29, true, [.t 2],
  .seq (.reg false [0] [⟨some 2, .mv (.c (.bool false)), none, 0, []⟩])
  (.seq (.reg false [0, 3] [⟨some 3, .mv (.c (.int .i64 0)), none, 0, []⟩])
  (.seq (.seq (.reg false [0, 3, 4] [⟨some 4, .mv (.c (.int .i64 0)), none, 0, []⟩])
  (.block 0 (.loop [0, 3, 4] burinlaw17_light_l0)))
  (.seq (.reg false [2] [⟨some 2, .mv (.c (.bool true)), none, 0, []⟩])
  (.ret))))⟩

def burinref0_EqSegments_l0 : Cd := .seq (.seq (.reg false [0, 1, 5, 14] [⟨some 11, .mv (.t 5), none, 0, []⟩,
    ⟨some 12, .mv (.t 0), none, 0, []⟩,
    ⟨some 13, .len none (.t 12), none, 0, []⟩,
    ⟨some 14, .bin .lss .num (.t 11) (.t 13), none, 0, []⟩])
  (.cond (.t 14) (.skip)
  (.exit 0)))
  (.seq (.block 1 (.seq (.reg true [0, 1, 5, 26] [⟨some 17, .mv (.t 0), none, 0, []⟩,
    ⟨some 18, .mv (.t 5), none, 1, []⟩,
    ⟨some 19, .iad none 7 (.t 17) (.t 18), none, 2, []⟩,
    ⟨some 20, .load (some 7) (.t 19), none, 3, []⟩,
    ⟨some 21, .mv (.t 1), none, 4, []⟩,
    ⟨some 22, .mv (.t 5), none, 5, []⟩,
    ⟨some 23, .iad none 7 (.t 21) (.t 22), none, 6, []⟩,
    ⟨some 24, .load (some 7) (.t 23), none, 7, []⟩,
    ⟨some 25, .call (.f 166) [(.t 20), (.t 24)], none, 8, []⟩,
    ⟨some 26, .un .not (.t 25), none, 9, []⟩])
  (.cond (.t 26) (.seq (.reg false [4] [⟨some 4, .mv (.c (.bool false)), none, 0, []⟩])
  (.ret))
  (.skip))))
  (.reg false [0, 1, 5] [⟨some 15, .mv (.t 5), none, 0, []⟩,
    ⟨some 16, .bin .add .num (.t 15) (.c (.int .i64 1)), none, 0, []⟩,
    ⟨some 5, .mv (.t 16), none, 0, []⟩]))
/-- burin/burinref0.EqSegments -/
def burinref0_EqSegments : AFun := ⟨2, 27, true, [.t 4],
  .seq (.reg false [0, 1] [⟨some 4, .mv (.c (.bool false)), none, 0, []⟩])
  (.seq (.seq (.reg false [0, 1, 10] [⟨some 6, .mv (.t 0), none, 0, []⟩,
    ⟨some 7, .len none (.t 6), none, 0, []⟩,
    ⟨some 8, .mv (.t 1), none, 0, []⟩,
    ⟨some 9, .len none (.t 8), none, 0, []⟩,
    ⟨some 10, .bin .neq .num (.t 7) (.t 9), none, 0, []⟩])
  (.cond (.t 10) (.seq (.reg false [4] [⟨some 4, .mv (.c (.bool false)), none, 0, []⟩])
  (.ret))
  (.skip)))
  (.seq (.seq (.reg false [0, 1, 5] [⟨some 5, .mv (.c (.int .i64 0)), none, 0, []⟩])
  (.block 0 (.loop [0, 1, 5] burinref0_EqSegments_l0)))
  (.seq (.reg false [4] [⟨some 4, .mv (.c (.bool true)), none, 0, []⟩])
  (.ret))))⟩

/-- A program that has them. -/
structure HasL17Writes (P : Prog) : Prop where
  h_burinlaw17_FileWrites : P 234 = some burinlaw17_FileWrites
  h_burinlaw17_light : P 233 = some burinlaw17_light
  h_burinref0_EqSegments : P 232 = some burinref0_EqSegments

end Go.Ab
