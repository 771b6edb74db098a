/- The texts of functions of the given program, for the abstract machine: written by wip/tools/gen.py out of Lean's print of the translation. Conditions: none; definitions alone. -/
import Derived.Test.YtfgecfbknpifjaaK1
set_option linter.all false
namespace Go.Ab
-- comps_Of: 181, parameters ?; loops comps_Of_l0 [13 ?, 21 ?, 169 ?, 170 ?, 171 ?]; comps_Of_l1 [13 ?, 21 ?, 24 ?, 25 ?, 169 ?, 170 ?, 171 ?, 206 ?, 207 ?, 208 ?]; comps_Of_l2 [13 ?, 19 ?, 158 ?]; comps_Of_l3 [6 ?, 13 ?, 84 ?, 85 ?, 86 ?]; comps_Of_l4 [4 ?, 6 ?, 7 ?, 36 ?, 37 ?, 38 ?]; comps_Of_l5 [4 ?, 6 ?, 7 ?, 8 ?, 9 ?, 10 ?, 36 ?, 37 ?, 38 ?, 45 ?, 46 ?, 47 ?]
-- comps_Back: 184, parameters l w h; loops comps_Back_l0 [6 , 8 m, 23 , 24 , 25 ]
-- comps_touching: 187, parameters f above row i k; loops comps_touching_l0 [0 f, 1 above, 2 row, 3 i, 4 k, 10 a, 11 b]
-- comps_forest_root: 186, parameters f i; loops comps_forest_root_l0 [0 f, 1 i]
-- comps_forest_join: 188, parameters f i k; loops 
-- slices_Sort_int_int: 185, an oracle

def comps_Of_l5 : Cd := .seq (.reg false [4, 6, 7, 8, 9, 10, 36, 37, 38, 45, 46, 47, 48] [⟨some 48, .bin .lss .num (.t 47) (.t 46), none, 0, []⟩])
  (.seq (.cond (.t 48) (.skip)
  (.exit 2))
  (.seq (.block 3 (.seq (.reg false [4, 6, 7, 8, 9, 10, 12, 36, 37, 38, 45, 46, 47] [⟨some 49, .iad none 2 (.t 45) (.t 47), none, 0, []⟩,
    ⟨some 50, .load (some 2) (.t 49), none, 0, []⟩,
    ⟨some 12, .alloc [.int .i64 0, .int .i64 0], none, 0, []⟩,
    ⟨none, .store 2 (.t 12) (.t 50), none, 0, []⟩])
  (.seq (.reg false [4, 6, 7, 8, 9, 10, 12, 36, 37, 38, 45, 46, 47] [⟨some 51, .mv (.t 6), none, 0, []⟩,
    ⟨some 52, .mv (.t 6), none, 0, []⟩,
    ⟨some 53, .len none (.t 52), none, 0, []⟩,
    ⟨some 54, .bslice 1 [.int .i64 0] 1 [(0, (.t 53))], none, 0, []⟩,
    ⟨some 55, .append 1 8 (.t 51) (.t 54), none, 0, []⟩,
    ⟨some 6, .mv (.t 55), none, 0, []⟩])
  (.reg false [4, 6, 7, 8, 9, 10, 36, 37, 38, 45, 46, 47] [⟨some 56, .mv (.t 7), none, 0, []⟩,
    ⟨some 57, .load (some 2) (.t 12), none, 0, []⟩,
    ⟨some 58, .mv (.t 8), none, 0, []⟩,
    ⟨some 59, .build [.int .i64 0, .int .i64 0, .int .i64 0] [(0, 2, (.t 57)), (2, 1, (.t 58))], none, 0, []⟩,
    ⟨some 60, .bslice 3 [.int .i64 0, .int .i64 0, .int .i64 0] 1 [(0, (.t 59))], none, 0, []⟩,
    ⟨some 61, .append 3 24 (.t 56) (.t 60), none, 0, []⟩,
    ⟨some 7, .mv (.t 61), none, 0, []⟩]))))
  (.reg false [4, 6, 7, 8, 9, 10, 36, 37, 38, 45, 46, 47] [⟨some 62, .bin .add .num (.t 47) (.c (.int .i64 1)), none, 0, []⟩,
    ⟨some 47, .mv (.t 62), none, 0, []⟩])))
def comps_Of_l4 : Cd := .seq (.reg false [4, 6, 7, 36, 37, 38, 39] [⟨some 39, .bin .lss .num (.t 38) (.t 37), none, 0, []⟩])
  (.seq (.cond (.t 39) (.skip)
  (.exit 0))
  (.seq (.block 1 (.seq (.reg false [4, 6, 7, 8, 9, 36, 37, 38] [⟨some 40, .mv (.t 38), none, 0, []⟩,
    ⟨some 41, .iad none 1 (.t 36) (.t 38), none, 0, []⟩,
    ⟨some 42, .load none (.t 41), none, 0, []⟩,
    ⟨some 8, .mv (.t 40), none, 0, []⟩,
    ⟨some 9, .mv (.t 42), none, 0, []⟩])
  (.seq (.reg false [4, 6, 7, 8, 9, 10, 36, 37, 38] [⟨some 43, .mv (.t 7), none, 0, []⟩,
    ⟨some 44, .len none (.t 43), none, 0, []⟩,
    ⟨some 10, .mv (.t 44), none, 0, []⟩])
  (.seq (.seq (.reg false [4, 6, 7, 8, 9, 10, 36, 37, 38, 45, 46, 47] [⟨some 45, .mv (.t 9), none, 0, []⟩,
    ⟨some 46, .len none (.t 45), none, 0, []⟩,
    ⟨some 47, .mv (.c (.int .i64 0)), none, 0, []⟩])
  (.block 2 (.loop [4, 6, 7, 8, 9, 10, 36, 37, 38, 45, 46, 47] comps_Of_l5)))
  (.seq (.reg false [4, 6, 7, 8, 9, 10, 36, 37, 38, 64] [⟨some 63, .mv (.t 8), none, 0, []⟩,
    ⟨some 64, .bin .gtr .num (.t 63) (.c (.int .i64 0)), none, 0, []⟩])
  (.cond (.t 64) (.reg true [4, 6, 7, 36, 37, 38] [⟨some 65, .mv (.t 6), none, 0, []⟩,
    ⟨some 66, .mv (.t 4), none, 1, []⟩,
    ⟨some 67, .mv (.t 8), none, 2, []⟩,
    ⟨some 68, .bin .sub .num (.t 67) (.c (.int .i64 1)), none, 3, []⟩,
    ⟨some 69, .iad none 1 (.t 66) (.t 68), none, 4, []⟩,
    ⟨some 70, .load none (.t 69), none, 5, []⟩,
    ⟨some 71, .mv (.t 9), none, 6, []⟩,
    ⟨some 72, .mv (.t 10), none, 7, []⟩,
    ⟨some 73, .mv (.t 4), none, 8, []⟩,
    ⟨some 74, .mv (.t 8), none, 9, []⟩,
    ⟨some 75, .bin .sub .num (.t 74) (.c (.int .i64 1)), none, 10, []⟩,
    ⟨some 76, .iad none 1 (.t 73) (.t 75), none, 11, []⟩,
    ⟨some 77, .load none (.t 76), none, 12, []⟩,
    ⟨some 78, .len none (.t 77), none, 13, []⟩,
    ⟨some 79, .bin .sub .num (.t 72) (.t 78), none, 14, []⟩,
    ⟨some 80, .mv (.t 10), none, 15, []⟩,
    ⟨some 81, .call (.f 187) [(.t 65), (.t 70), (.t 71), (.t 79), (.t 80)], none, 16, []⟩])
  (.skip)))))))
  (.reg false [4, 6, 7, 36, 37, 38] [⟨some 82, .bin .add .num (.t 38) (.c (.int .i64 1)), none, 0, []⟩,
    ⟨some 38, .mv (.t 82), none, 0, []⟩])))
def comps_Of_l3 : Cd := .seq (.reg false [6, 13, 84, 85, 86, 87] [⟨some 87, .bin .lss .num (.t 86) (.t 85), none, 0, []⟩])
  (.seq (.cond (.t 87) (.skip)
  (.exit 4))
  (.seq (.block 5 (.seq (.reg false [6, 13, 14, 15, 84, 85, 86] [⟨some 88, .mv (.t 86), none, 0, []⟩,
    ⟨some 89, .iad none 3 (.t 84) (.t 86), none, 0, []⟩,
    ⟨some 90, .load (some 3) (.t 89), none, 0, []⟩,
    ⟨some 15, .alloc [.int .i64 0, .int .i64 0, .int .i64 0], none, 0, []⟩,
    ⟨some 14, .mv (.t 88), none, 0, []⟩,
    ⟨none, .store 3 (.t 15) (.t 90), none, 0, []⟩])
  (.seq (.reg false [6, 13, 15, 16, 84, 85, 86] [⟨some 91, .mv (.t 6), none, 0, []⟩,
    ⟨some 92, .mv (.t 14), none, 0, []⟩,
    ⟨some 93, .call (.f 186) [(.t 91), (.t 92)], none, 0, []⟩,
    ⟨some 16, .mv (.t 93), none, 0, []⟩])
  (.seq (.reg false [6, 13, 15, 16, 17, 18, 84, 85, 86] [⟨some 95, .mv (.t 13), none, 0, []⟩,
    ⟨some 96, .mv (.t 16), none, 0, []⟩,
    ⟨some 97, .mp (.look (.ptr none) true (.t 95) (.t 96)), none, 0, []⟩,
    ⟨some 94, .mv (.t 97), none, 0, []⟩,
    ⟨some 98, .ext 0 (.t 94), none, 0, []⟩,
    ⟨some 99, .ext 1 (.t 94), none, 0, []⟩,
    ⟨some 17, .mv (.t 98), none, 0, []⟩,
    ⟨some 18, .mv (.t 99), none, 0, []⟩])
  (.seq (.seq (.reg false [6, 13, 15, 16, 17, 84, 85, 86, 101] [⟨some 100, .mv (.t 18), none, 0, []⟩,
    ⟨some 101, .un .not (.t 100), none, 0, []⟩])
  (.cond (.t 101) (.seq (.reg false [6, 13, 15, 16, 17, 84, 85, 86] [⟨some 102, .fad 0 (.t 15), none, 0, []⟩,
    ⟨some 103, .fad 0 (.t 102), none, 0, []⟩,
    ⟨some 104, .load none (.t 103), none, 0, []⟩,
    ⟨some 105, .fad 2 (.t 15), none, 0, []⟩,
    ⟨some 106, .load none (.t 105), none, 0, []⟩,
    ⟨some 107, .fad 0 (.t 15), none, 0, []⟩,
    ⟨some 108, .fad 1 (.t 107), none, 0, []⟩,
    ⟨some 109, .load none (.t 108), none, 0, []⟩,
    ⟨some 110, .fad 2 (.t 15), none, 0, []⟩,
    ⟨some 111, .load none (.t 110), none, 0, []⟩,
    ⟨some 112, .bin .add .num (.t 111) (.c (.int .i64 1)), none, 0, []⟩,
    ⟨some 113, .build [.int .i64 0, .int .i64 0, .int .i64 0, .int .i64 0, .sl none 0 0 0] [(0, 1, (.t 104)), (1, 1, (.t 106)), (2, 1, (.t 109)), (3, 1, (.t 112)), (4, 1, (.c (.sl none 0 0 0)))], none, 0, []⟩,
    ⟨some 114, .box 5 (.t 113), none, 0, []⟩,
    ⟨some 17, .mv (.t 114), none, 0, []⟩])
  (.reg false [6, 13, 15, 17, 84, 85, 86] [⟨some 115, .mv (.t 13), none, 0, []⟩,
    ⟨some 116, .mv (.t 16), none, 0, []⟩,
    ⟨some 117, .mv (.t 17), none, 0, []⟩,
    ⟨none, .mp (.upd (.t 115) (.t 116) (.t 117)), none, 0, []⟩]))
  (.skip)))
  (.seq (.reg true [6, 13, 15, 17, 84, 85, 86] [⟨some 118, .mv (.t 17), none, 0, []⟩,
    ⟨some 119, .mv (.t 17), none, 1, []⟩,
    ⟨some 120, .mv (.t 17), none, 2, []⟩,
    ⟨some 121, .mv (.t 17), none, 3, []⟩,
    ⟨some 122, .nilck (.t 121), none, 4, []⟩,
    ⟨some 123, .fad 0 (.t 122), none, 5, []⟩,
    ⟨some 124, .load none (.t 123), none, 6, []⟩,
    ⟨some 125, .fad 0 (.t 15), none, 7, []⟩,
    ⟨some 126, .fad 0 (.t 125), none, 8, []⟩,
    ⟨some 127, .load none (.t 126), none, 9, []⟩,
    ⟨some 128, .mm false [(.t 124), (.t 127)], none, 10, []⟩,
    ⟨some 129, .mv (.t 17), none, 11, []⟩,
    ⟨some 130, .nilck (.t 129), none, 12, []⟩,
    ⟨some 131, .fad 2 (.t 130), none, 13, []⟩,
    ⟨some 132, .load none (.t 131), none, 14, []⟩,
    ⟨some 133, .fad 0 (.t 15), none, 15, []⟩,
    ⟨some 134, .fad 1 (.t 133), none, 16, []⟩,
    ⟨some 135, .load none (.t 134), none, 17, []⟩,
    ⟨some 136, .mm true [(.t 132), (.t 135)], none, 18, []⟩,
    ⟨some 137, .fad 2 (.t 15), none, 19, []⟩,
    ⟨some 138, .load none (.t 137), none, 20, []⟩,
    ⟨some 139, .bin .add .num (.t 138) (.c (.int .i64 1)), none, 21, []⟩,
    ⟨some 140, .nilck (.t 118), none, 22, []⟩,
    ⟨some 141, .fad 0 (.t 140), none, 23, []⟩,
    ⟨none, .store 1 (.t 141) (.t 128), none, 24, [17, 20]⟩,
    ⟨some 142, .nilck (.t 119), none, 25, []⟩,
    ⟨some 143, .fad 2 (.t 142), none, 26, []⟩,
    ⟨none, .store 1 (.t 143) (.t 136), none, 27, [20]⟩,
    ⟨some 144, .nilck (.t 120), none, 28, []⟩,
    ⟨some 145, .fad 3 (.t 144), none, 29, []⟩,
    ⟨none, .store 1 (.t 145) (.t 139), none, 30, []⟩])
  (.reg true [6, 13, 84, 85, 86] [⟨some 146, .mv (.t 17), none, 0, []⟩,
    ⟨some 147, .mv (.t 17), none, 1, []⟩,
    ⟨some 148, .nilck (.t 147), none, 2, []⟩,
    ⟨some 149, .fad 4 (.t 148), none, 3, []⟩,
    ⟨some 150, .load none (.t 149), none, 4, []⟩,
    ⟨some 151, .load (some 3) (.t 15), none, 5, []⟩,
    ⟨some 152, .bslice 3 [.int .i64 0, .int .i64 0, .int .i64 0] 1 [(0, (.t 151))], none, 6, []⟩,
    ⟨some 153, .append 3 24 (.t 150) (.t 152), none, 7, []⟩,
    ⟨some 154, .nilck (.t 146), none, 8, []⟩,
    ⟨some 155, .fad 4 (.t 154), none, 9, []⟩,
    ⟨none, .store 1 (.t 155) (.t 153), none, 10, []⟩])))))))
  (.reg false [6, 13, 84, 85, 86] [⟨some 156, .bin .add .num (.t 86) (.c (.int .i64 1)), none, 0, []⟩,
    ⟨some 86, .mv (.t 156), none, 0, []⟩])))
def comps_Of_l2 : Cd := .seq (.reg false [13, 19, 158, 160] [⟨some 159, .mp (.next (.t 158)), none, 0, []⟩,
    ⟨some 160, .ext 0 (.t 159), none, 0, []⟩])
  (.seq (.cond (.t 160) (.skip)
  (.exit 6))
  (.block 7 (.seq (.reg false [13, 19, 20, 158] [⟨some 161, .mp (.entry (.t 158)), none, 0, []⟩,
    ⟨some 162, .ext 0 (.t 161), none, 0, []⟩,
    ⟨some 20, .mv (.t 162), none, 0, []⟩])
  (.reg false [13, 19, 158] [⟨some 163, .mv (.t 19), none, 0, []⟩,
    ⟨some 164, .mv (.t 20), none, 0, []⟩,
    ⟨some 165, .bslice 1 [.int .i64 0] 1 [(0, (.t 164))], none, 0, []⟩,
    ⟨some 166, .append 1 8 (.t 163) (.t 165), none, 0, []⟩,
    ⟨some 19, .mv (.t 166), none, 0, []⟩]))))
def comps_Of_l1 : Cd := .seq (.reg false [13, 21, 24, 25, 169, 170, 171, 206, 207, 208, 209] [⟨some 209, .bin .lss .num (.t 208) (.t 207), none, 0, []⟩])
  (.seq (.cond (.t 209) (.skip)
  (.exit 10))
  (.seq (.block 11 (.seq (.reg false [13, 21, 24, 25, 28, 169, 170, 171, 206, 207, 208] [⟨some 210, .iad none 3 (.t 206) (.t 208), none, 0, []⟩,
    ⟨some 211, .load (some 3) (.t 210), none, 0, []⟩,
    ⟨some 28, .alloc [.int .i64 0, .int .i64 0, .int .i64 0], none, 0, []⟩,
    ⟨none, .store 3 (.t 28) (.t 211), none, 0, []⟩])
  (.reg true [13, 21, 24, 25, 169, 170, 171, 206, 207, 208] [⟨some 212, .mv (.t 25), none, 0, []⟩,
    ⟨some 213, .fad 0 (.t 28), none, 1, []⟩,
    ⟨some 214, .fad 0 (.t 213), none, 2, []⟩,
    ⟨some 215, .load none (.t 214), none, 3, []⟩,
    ⟨some 216, .mv (.t 24), none, 4, []⟩,
    ⟨some 217, .nilck (.t 216), none, 5, []⟩,
    ⟨some 218, .fad 0 (.t 217), none, 6, []⟩,
    ⟨some 219, .load none (.t 218), none, 7, []⟩,
    ⟨some 220, .bin .sub .num (.t 215) (.t 219), none, 8, []⟩,
    ⟨some 221, .fad 2 (.t 28), none, 9, []⟩,
    ⟨some 222, .load none (.t 221), none, 10, []⟩,
    ⟨some 223, .mv (.t 24), none, 11, []⟩,
    ⟨some 224, .nilck (.t 223), none, 12, []⟩,
    ⟨some 225, .fad 1 (.t 224), none, 13, []⟩,
    ⟨some 226, .load none (.t 225), none, 14, []⟩,
    ⟨some 227, .bin .sub .num (.t 222) (.t 226), none, 15, []⟩,
    ⟨some 228, .fad 0 (.t 28), none, 16, []⟩,
    ⟨some 229, .fad 1 (.t 228), none, 17, []⟩,
    ⟨some 230, .load none (.t 229), none, 18, []⟩,
    ⟨some 231, .fad 0 (.t 28), none, 19, []⟩,
    ⟨some 232, .fad 0 (.t 231), none, 20, []⟩,
    ⟨some 233, .load none (.t 232), none, 21, []⟩,
    ⟨some 234, .bin .sub .num (.t 230) (.t 233), none, 22, []⟩,
    ⟨some 235, .call (.f 56) [(.t 212), (.t 220), (.t 227), (.t 234), (.c (.int .i64 1)), (.c (.int .i64 1))], none, 23, []⟩])))
  (.reg false [13, 21, 24, 25, 169, 170, 171, 206, 207, 208] [⟨some 236, .bin .add .num (.t 208) (.c (.int .i64 1)), none, 0, []⟩,
    ⟨some 208, .mv (.t 236), none, 0, []⟩])))
def comps_Of_l0 : Cd := .seq (.reg false [13, 21, 169, 170, 171, 172] [⟨some 172, .bin .lss .num (.t 171) (.t 170), none, 0, []⟩])
  (.seq (.cond (.t 172) (.skip)
  (.exit 8))
  (.seq (.block 9 (.seq (.reg false [13, 21, 23, 169, 170, 171] [⟨some 173, .iad none 1 (.t 169) (.t 171), none, 0, []⟩,
    ⟨some 174, .load none (.t 173), none, 0, []⟩,
    ⟨some 23, .mv (.t 174), none, 0, []⟩])
  (.seq (.reg false [13, 21, 24, 169, 170, 171] [⟨some 175, .mv (.t 13), none, 0, []⟩,
    ⟨some 176, .mv (.t 23), none, 0, []⟩,
    ⟨some 177, .mp (.look (.ptr none) false (.t 175) (.t 176)), none, 0, []⟩,
    ⟨some 24, .mv (.t 177), none, 0, []⟩])
  (.seq (.reg true [13, 21, 24, 25, 26, 169, 170, 171] [⟨some 179, .mv (.t 24), none, 0, []⟩,
    ⟨some 180, .nilck (.t 179), none, 1, []⟩,
    ⟨some 181, .fad 2 (.t 180), none, 2, []⟩,
    ⟨some 182, .load none (.t 181), none, 3, []⟩,
    ⟨some 183, .mv (.t 24), none, 4, []⟩,
    ⟨some 184, .nilck (.t 183), none, 5, []⟩,
    ⟨some 185, .fad 0 (.t 184), none, 6, []⟩,
    ⟨some 186, .load none (.t 185), none, 7, []⟩,
    ⟨some 187, .bin .sub .num (.t 182) (.t 186), none, 8, []⟩,
    ⟨some 188, .mv (.t 24), none, 9, []⟩,
    ⟨some 189, .nilck (.t 188), none, 10, []⟩,
    ⟨some 190, .fad 3 (.t 189), none, 11, []⟩,
    ⟨some 191, .load none (.t 190), none, 12, []⟩,
    ⟨some 192, .mv (.t 24), none, 13, []⟩,
    ⟨some 193, .nilck (.t 192), none, 14, []⟩,
    ⟨some 194, .fad 1 (.t 193), none, 15, []⟩,
    ⟨some 195, .load none (.t 194), none, 16, []⟩,
    ⟨some 196, .bin .sub .num (.t 191) (.t 195), none, 17, []⟩,
    ⟨some 197, .call (.f 42) [(.t 187), (.t 196)], none, 18, []⟩,
    ⟨some 178, .mv (.t 197), none, 19, []⟩,
    ⟨some 198, .ext 0 (.t 178), none, 20, []⟩,
    ⟨some 199, .ext 1 (.t 178), none, 21, []⟩,
    ⟨some 25, .mv (.t 198), none, 22, []⟩,
    ⟨some 26, .mv (.t 199), none, 23, []⟩])
  (.seq (.seq (.reg false [13, 21, 24, 25, 26, 169, 170, 171, 201] [⟨some 200, .mv (.t 26), none, 0, []⟩,
    ⟨some 201, .bin .neq .num (.t 200) (.c (.int .i64 0)), none, 0, []⟩])
  (.cond (.t 201) (.seq (.reg false [2, 3] [⟨some 202, .mv (.t 26), none, 0, []⟩,
    ⟨some 2, .mv (.c (.sl none 0 0 0)), none, 0, []⟩,
    ⟨some 3, .mv (.t 202), none, 0, []⟩])
  (.ret))
  (.skip)))
  (.seq (.seq (.reg false [13, 21, 24, 25, 169, 170, 171, 206, 207, 208] [⟨some 203, .mv (.t 24), none, 0, []⟩,
    ⟨some 204, .nilck (.t 203), none, 0, []⟩,
    ⟨some 205, .fad 4 (.t 204), none, 0, []⟩,
    ⟨some 206, .load none (.t 205), none, 0, []⟩,
    ⟨some 207, .len none (.t 206), none, 0, []⟩,
    ⟨some 208, .mv (.c (.int .i64 0)), none, 0, []⟩])
  (.block 10 (.loop [13, 21, 24, 25, 169, 170, 171, 206, 207, 208] comps_Of_l1)))
  (.reg true [13, 21, 169, 170, 171] [⟨some 237, .mv (.t 21), none, 0, []⟩,
    ⟨some 238, .mv (.t 24), none, 1, []⟩,
    ⟨some 239, .nilck (.t 238), none, 2, []⟩,
    ⟨some 240, .fad 0 (.t 239), none, 3, []⟩,
    ⟨some 241, .load none (.t 240), none, 4, []⟩,
    ⟨some 242, .mv (.t 24), none, 5, []⟩,
    ⟨some 243, .nilck (.t 242), none, 6, []⟩,
    ⟨some 244, .fad 1 (.t 243), none, 7, []⟩,
    ⟨some 245, .load none (.t 244), none, 8, []⟩,
    ⟨some 246, .mv (.t 25), none, 9, []⟩,
    ⟨some 247, .call (.f 45) [(.t 246)], none, 10, [4, 8]⟩,
    ⟨some 248, .build [.int .i64 0, .int .i64 0, .int .i64 0, .int .i64 0, .sl none 0 0 0] [(0, 1, (.t 241)), (1, 1, (.t 245)), (2, 3, (.t 247))], none, 11, []⟩,
    ⟨some 249, .bslice 5 [.int .i64 0, .int .i64 0, .int .i64 0, .int .i64 0, .sl none 0 0 0] 1 [(0, (.t 248))], none, 12, []⟩,
    ⟨some 250, .append 5 56 (.t 237) (.t 249), none, 13, []⟩,
    ⟨some 21, .mv (.t 250), none, 14, []⟩])))))))
  (.reg false [13, 21, 169, 170, 171] [⟨some 251, .bin .add .num (.t 171) (.c (.int .i64 1)), none, 0, []⟩,
    ⟨some 171, .mv (.t 251), none, 0, []⟩])))
/-- burin/comps.Of -/
def comps_Of : AFun := ⟨1, 253, true, [.t 2, .t 3],
  .seq (.reg false [1] [⟨some 1, .box 3 (.t 0), none, 0, []⟩,
    ⟨some 2, .mv (.c (.sl none 0 0 0)), none, 0, []⟩,
    ⟨some 3, .mv (.c (.int .i64 0)), none, 0, []⟩])
  (.seq (.reg false [4, 5] [⟨some 30, .load (some 3) (.t 1), none, 0, []⟩,
    ⟨some 31, .call (.f 115) [(.t 30)], none, 0, []⟩,
    ⟨some 29, .mv (.t 31), none, 0, []⟩,
    ⟨some 32, .ext 0 (.t 29), none, 0, []⟩,
    ⟨some 33, .ext 1 (.t 29), none, 0, []⟩,
    ⟨some 4, .mv (.t 32), none, 0, []⟩,
    ⟨some 5, .mv (.t 33), none, 0, []⟩])
  (.seq (.seq (.reg false [4, 35] [⟨some 34, .mv (.t 5), none, 0, []⟩,
    ⟨some 35, .bin .neq .num (.t 34) (.c (.int .i64 0)), none, 0, []⟩])
  (.cond (.t 35) (.seq (.reg false [2, 3] [⟨some 2, .mv (.c (.sl none 0 0 0)), none, 0, []⟩,
    ⟨some 3, .mv (.c (.int .i64 90)), none, 0, []⟩])
  (.ret))
  (.skip)))
  (.seq (.reg false [4, 6] [⟨some 6, .mv (.c (.sl none 0 0 0)), none, 0, []⟩])
  (.seq (.reg false [4, 6, 7] [⟨some 7, .mv (.c (.sl none 0 0 0)), none, 0, []⟩])
  (.seq (.seq (.reg false [4, 6, 7, 36, 37, 38] [⟨some 36, .mv (.t 4), none, 0, []⟩,
    ⟨some 37, .len none (.t 36), none, 0, []⟩,
    ⟨some 38, .mv (.c (.int .i64 0)), none, 0, []⟩])
  (.block 0 (.loop [4, 6, 7, 36, 37, 38] comps_Of_l4)))
  (.seq (.reg false [6, 7, 13] [⟨some 83, .mp .mk, none, 0, []⟩,
    ⟨some 13, .mv (.t 83), none, 0, []⟩])
  (.seq (.seq (.reg false [6, 13, 84, 85, 86] [⟨some 84, .mv (.t 7), none, 0, []⟩,
    ⟨some 85, .len none (.t 84), none, 0, []⟩,
    ⟨some 86, .mv (.c (.int .i64 0)), none, 0, []⟩])
  (.block 4 (.loop [6, 13, 84, 85, 86] comps_Of_l3)))
  (.seq (.reg false [13, 19] [⟨some 19, .mv (.c (.sl none 0 0 0)), none, 0, []⟩])
  (.seq (.seq (.reg false [13, 19, 158] [⟨some 157, .mv (.t 13), none, 0, []⟩,
    ⟨some 158, .mp (.range (.t 157)), none, 0, []⟩])
  (.block 6 (.loop [13, 19, 158] comps_Of_l2)))
  (.seq (.reg false [13, 19] [⟨some 167, .mv (.t 19), none, 0, []⟩,
    ⟨some 168, .call (.f 185) [(.t 167)], none, 0, []⟩])
  (.seq (.reg false [13, 19, 21] [⟨some 21, .mv (.c (.sl none 0 0 0)), none, 0, []⟩])
  (.seq (.seq (.reg false [13, 21, 169, 170, 171] [⟨some 169, .mv (.t 19), none, 0, []⟩,
    ⟨some 170, .len none (.t 169), none, 0, []⟩,
    ⟨some 171, .mv (.c (.int .i64 0)), none, 0, []⟩])
  (.block 8 (.loop [13, 21, 169, 170, 171] comps_Of_l0)))
  (.seq (.reg false [2, 3] [⟨some 252, .mv (.t 21), none, 0, []⟩,
    ⟨some 2, .mv (.t 252), none, 0, []⟩,
    ⟨some 3, .mv (.c (.int .i64 0)), none, 0, []⟩])
  (.ret))))))))))))))⟩

def comps_Back_l0 : Cd := .seq (.reg false [6, 8, 23, 24, 25, 26] [⟨some 26, .bin .lss .num (.t 25) (.t 24), none, 0, []⟩])
  (.seq (.cond (.t 26) (.skip)
  (.exit 0))
  (.seq (.block 1 (.seq (.reg false [6, 8, 11, 23, 24, 25] [⟨some 27, .iad none 5 (.t 23) (.t 25), none, 0, []⟩,
    ⟨some 28, .load (some 5) (.t 27), none, 0, []⟩,
    ⟨some 11, .alloc [.int .i64 0, .int .i64 0, .int .i64 0, .int .i64 0, .sl none 0 0 0], none, 0, []⟩,
    ⟨none, .store 5 (.t 11) (.t 28), none, 0, []⟩])
  (.seq (.reg false [6, 8, 11, 12, 13, 23, 24, 25] [⟨some 30, .fad 2 (.t 11), none, 0, []⟩,
    ⟨some 31, .load (some 3) (.t 30), none, 0, []⟩,
    ⟨some 32, .call (.f 44) [(.t 31)], none, 0, []⟩,
    ⟨some 29, .mv (.t 32), none, 0, []⟩,
    ⟨some 33, .ext 0 (.t 29), none, 0, []⟩,
    ⟨some 34, .ext 1 (.t 29), none, 0, []⟩,
    ⟨some 12, .mv (.t 33), none, 0, []⟩,
    ⟨some 13, .mv (.t 34), none, 0, []⟩])
  (.seq (.seq (.reg false [6, 8, 11, 12, 23, 24, 25, 36] [⟨some 35, .mv (.t 13), none, 0, []⟩,
    ⟨some 36, .bin .neq .num (.t 35) (.c (.int .i64 0)), none, 0, []⟩])
  (.cond (.t 36) (.seq (.reg false [6, 7] [⟨some 37, .build [.int .i64 0, .int .i64 0, .sl none 0 0 0] [], none, 0, []⟩,
    ⟨none, .store 3 (.t 6) (.t 37), none, 0, []⟩,
    ⟨some 7, .mv (.c (.int .i64 90)), none, 0, []⟩])
  (.ret))
  (.skip)))
  (.reg false [6, 8, 23, 24, 25] [⟨some 38, .mv (.t 8), none, 0, []⟩,
    ⟨some 39, .mv (.t 12), none, 0, []⟩,
    ⟨some 40, .fad 2 (.t 11), none, 0, []⟩,
    ⟨some 41, .fad 0 (.t 40), none, 0, []⟩,
    ⟨some 42, .load none (.t 41), none, 0, []⟩,
    ⟨some 43, .fad 2 (.t 11), none, 0, []⟩,
    ⟨some 44, .fad 1 (.t 43), none, 0, []⟩,
    ⟨some 45, .load none (.t 44), none, 0, []⟩,
    ⟨some 46, .fad 0 (.t 11), none, 0, []⟩,
    ⟨some 47, .load none (.t 46), none, 0, []⟩,
    ⟨some 48, .fad 1 (.t 11), none, 0, []⟩,
    ⟨some 49, .load none (.t 48), none, 0, []⟩,
    ⟨some 50, .call (.f 64) [(.t 38), (.t 39), (.c (.int .i64 0)), (.c (.int .i64 0)), (.t 42), (.t 45), (.t 47), (.t 49), (.c (.int .i64 0))], none, 0, []⟩])))))
  (.reg false [6, 8, 23, 24, 25] [⟨some 51, .bin .add .num (.t 25) (.c (.int .i64 1)), none, 0, []⟩,
    ⟨some 25, .mv (.t 51), none, 0, []⟩])))
/-- burin/comps.Back -/
def comps_Back : AFun := ⟨3, 54, true, [.cell 6 (some 3), .t 7],
  .seq (.reg false [0, 1, 2, 6] [⟨some 6, .alloc [.int .i64 0, .int .i64 0, .sl none 0 0 0], none, 0, []⟩,
    ⟨some 7, .mv (.c (.int .i64 0)), none, 0, []⟩])
  (.seq (.reg false [0, 6, 8, 9] [⟨some 15, .mv (.t 1), none, 0, []⟩,
    ⟨some 16, .mv (.t 2), none, 0, []⟩,
    ⟨some 17, .call (.f 42) [(.t 15), (.t 16)], none, 0, []⟩,
    ⟨some 14, .mv (.t 17), none, 0, []⟩,
    ⟨some 18, .ext 0 (.t 14), none, 0, []⟩,
    ⟨some 19, .ext 1 (.t 14), none, 0, []⟩,
    ⟨some 8, .mv (.t 18), none, 0, []⟩,
    ⟨some 9, .mv (.t 19), none, 0, []⟩])
  (.seq (.seq (.reg false [0, 6, 8, 21] [⟨some 20, .mv (.t 9), none, 0, []⟩,
    ⟨some 21, .bin .neq .num (.t 20) (.c (.int .i64 0)), none, 0, []⟩])
  (.cond (.t 21) (.seq (.reg false [6, 7] [⟨some 22, .build [.int .i64 0, .int .i64 0, .sl none 0 0 0] [], none, 0, []⟩,
    ⟨none, .store 3 (.t 6) (.t 22), none, 0, []⟩,
    ⟨some 7, .mv (.c (.int .i64 90)), none, 0, []⟩])
  (.ret))
  (.skip)))
  (.seq (.seq (.reg false [6, 8, 23, 24, 25] [⟨some 23, .mv (.t 0), none, 0, []⟩,
    ⟨some 24, .len none (.t 23), none, 0, []⟩,
    ⟨some 25, .mv (.c (.int .i64 0)), none, 0, []⟩])
  (.block 0 (.loop [6, 8, 23, 24, 25] comps_Back_l0)))
  (.seq (.reg false [6, 7] [⟨some 52, .mv (.t 8), none, 0, []⟩,
    ⟨some 53, .call (.f 45) [(.t 52)], none, 0, []⟩,
    ⟨none, .store 3 (.t 6) (.t 53), none, 0, []⟩,
    ⟨some 7, .mv (.c (.int .i64 0)), none, 0, []⟩])
  (.ret)))))⟩

def comps_touching_l0 : Cd := .seq (.seq (.reg false [0, 1, 2, 3, 4, 10, 11, 21] [⟨some 12, .mv (.t 10), none, 0, []⟩,
    ⟨some 13, .mv (.t 1), none, 0, []⟩,
    ⟨some 14, .len none (.t 13), none, 0, []⟩,
    ⟨some 15, .bin .lss .num (.t 12) (.t 14), none, 0, []⟩,
    ⟨some 16, .mv (.t 15), none, 0, []⟩,
    ⟨some 17, .mv (.t 11), some (16, true), 0, []⟩,
    ⟨some 18, .mv (.t 2), some (16, true), 0, []⟩,
    ⟨some 19, .len none (.t 18), some (16, true), 0, []⟩,
    ⟨some 20, .bin .lss .num (.t 17) (.t 19), some (16, true), 0, []⟩,
    ⟨some 21, .pick (.t 16) (.t 20) (.c (.bool false)), none, 0, []⟩])
  (.cond (.t 21) (.skip)
  (.exit 0)))
  (.block 1 (.seq (.seq (.reg true [0, 1, 2, 3, 4, 10, 11, 30] [⟨some 22, .mv (.t 1), none, 0, []⟩,
    ⟨some 23, .mv (.t 10), none, 1, []⟩,
    ⟨some 24, .iad none 2 (.t 22) (.t 23), none, 2, []⟩,
    ⟨some 25, .load (some 2) (.t 24), none, 3, []⟩,
    ⟨some 26, .mv (.t 2), none, 4, []⟩,
    ⟨some 27, .mv (.t 11), none, 5, []⟩,
    ⟨some 28, .iad none 2 (.t 26) (.t 27), none, 6, []⟩,
    ⟨some 29, .load (some 2) (.t 28), none, 7, []⟩,
    ⟨some 30, .call (.f 117) [(.t 25), (.t 29)], none, 8, []⟩])
  (.cond (.t 30) (.reg false [0, 1, 2, 3, 4, 10, 11] [⟨some 31, .mv (.t 0), none, 0, []⟩,
    ⟨some 32, .mv (.t 3), none, 0, []⟩,
    ⟨some 33, .mv (.t 10), none, 0, []⟩,
    ⟨some 34, .bin .add .num (.t 32) (.t 33), none, 0, []⟩,
    ⟨some 35, .mv (.t 4), none, 0, []⟩,
    ⟨some 36, .mv (.t 11), none, 0, []⟩,
    ⟨some 37, .bin .add .num (.t 35) (.t 36), none, 0, []⟩,
    ⟨some 38, .call (.f 188) [(.t 31), (.t 34), (.t 37)], none, 0, []⟩])
  (.skip)))
  (.seq (.reg true [0, 1, 2, 3, 4, 10, 11, 49] [⟨some 39, .mv (.t 1), none, 0, []⟩,
    ⟨some 40, .mv (.t 10), none, 1, []⟩,
    ⟨some 41, .iad none 2 (.t 39) (.t 40), none, 2, []⟩,
    ⟨some 42, .fad 1 (.t 41), none, 3, []⟩,
    ⟨some 43, .load none (.t 42), none, 4, []⟩,
    ⟨some 44, .mv (.t 2), none, 5, []⟩,
    ⟨some 45, .mv (.t 11), none, 6, []⟩,
    ⟨some 46, .iad none 2 (.t 44) (.t 45), none, 7, []⟩,
    ⟨some 47, .fad 1 (.t 46), none, 8, []⟩,
    ⟨some 48, .load none (.t 47), none, 9, []⟩,
    ⟨some 49, .bin .leq .num (.t 43) (.t 48), none, 10, []⟩])
  (.cond (.t 49) (.reg false [0, 1, 2, 3, 4, 10, 11] [⟨some 50, .mv (.t 10), none, 0, []⟩,
    ⟨some 51, .bin .add .num (.t 50) (.c (.int .i64 1)), none, 0, []⟩,
    ⟨some 10, .mv (.t 51), none, 0, []⟩])
  (.reg false [0, 1, 2, 3, 4, 10, 11] [⟨some 52, .mv (.t 11), none, 0, []⟩,
    ⟨some 53, .bin .add .num (.t 52) (.c (.int .i64 1)), none, 0, []⟩,
    ⟨some 11, .mv (.t 53), none, 0, []⟩])))))
/-- burin/comps.touching -/
def comps_touching : AFun := ⟨5, 54, true, [],
  .seq (.reg false [0, 1, 2, 3, 4, 10, 11] [⟨some 10, .mv (.c (.int .i64 0)), none, 0, []⟩,
    ⟨some 11, .mv (.c (.int .i64 0)), none, 0, []⟩])
  (.block 0 (.loop [0, 1, 2, 3, 4, 10, 11] comps_touching_l0))⟩

def comps_forest_root_l0 : Cd := .seq (.seq (.reg false [0, 1, 10] [⟨some 5, .mv (.t 0), none, 0, []⟩,
    ⟨some 6, .mv (.t 1), none, 0, []⟩,
    ⟨some 7, .iad none 1 (.t 5) (.t 6), none, 0, []⟩,
    ⟨some 8, .load none (.t 7), none, 0, []⟩,
    ⟨some 9, .mv (.t 1), none, 0, []⟩,
    ⟨some 10, .bin .neq .num (.t 8) (.t 9), none, 0, []⟩])
  (.cond (.t 10) (.seq (.reg false [0, 1] [⟨some 11, .mv (.t 0), none, 0, []⟩,
    ⟨some 12, .mv (.t 1), none, 0, []⟩,
    ⟨some 13, .mv (.t 0), none, 0, []⟩,
    ⟨some 14, .mv (.t 0), none, 0, []⟩,
    ⟨some 15, .mv (.t 1), none, 0, []⟩,
    ⟨some 16, .iad none 1 (.t 14) (.t 15), none, 0, []⟩,
    ⟨some 17, .load none (.t 16), none, 0, []⟩,
    ⟨some 18, .iad none 1 (.t 13) (.t 17), none, 0, []⟩,
    ⟨some 19, .load none (.t 18), none, 0, []⟩,
    ⟨some 20, .iad none 1 (.t 11) (.t 12), none, 0, []⟩,
    ⟨none, .store 1 (.t 20) (.t 19), none, 0, []⟩])
  (.seq (.reg false [0, 1] [⟨some 21, .mv (.t 0), none, 0, []⟩,
    ⟨some 22, .mv (.t 1), none, 0, []⟩,
    ⟨some 23, .iad none 1 (.t 21) (.t 22), none, 0, []⟩,
    ⟨some 24, .load none (.t 23), none, 0, []⟩,
    ⟨some 1, .mv (.t 24), none, 0, []⟩])
  (.goto 0)))
  (.skip)))
  (.seq (.reg false [4] [⟨some 25, .mv (.t 1), none, 0, []⟩,
    ⟨some 4, .mv (.t 25), none, 0, []⟩])
  (.ret))
/-- (burin/comps.forest).root -/
def comps_forest_root : AFun := ⟨2, 26, true, [.t 4],
  .seq (.reg false [0, 1] [⟨some 4, .mv (.c (.int .i64 0)), none, 0, []⟩])
  (.gscope .skip 0 [0, 1] comps_forest_root_l0)⟩

/-- (burin/comps.forest).join -/
def comps_forest_join : AFun := ⟨3, 20, true, [],
  .seq (.reg false [0, 1, 2] [⟨some 6, .mv (.t 0), none, 0, []⟩,
    ⟨some 7, .mv (.t 1), none, 0, []⟩,
    ⟨some 8, .call (.f 186) [(.t 6), (.t 7)], none, 0, []⟩,
    ⟨some 9, .mv (.t 0), none, 0, []⟩,
    ⟨some 10, .mv (.t 2), none, 0, []⟩,
    ⟨some 11, .call (.f 186) [(.t 9), (.t 10)], none, 0, []⟩,
    ⟨some 1, .mv (.t 8), none, 0, []⟩,
    ⟨some 2, .mv (.t 11), none, 0, []⟩])
  (.reg false [] [⟨some 12, .mv (.t 0), none, 0, []⟩,
    ⟨some 13, .mv (.t 1), none, 0, []⟩,
    ⟨some 14, .mv (.t 2), none, 0, []⟩,
    ⟨some 15, .mm true [(.t 13), (.t 14)], none, 0, []⟩,
    ⟨some 16, .mv (.t 1), none, 0, []⟩,
    ⟨some 17, .mv (.t 2), none, 0, []⟩,
    ⟨some 18, .mm false [(.t 16), (.t 17)], none, 0, []⟩,
    ⟨some 19, .iad none 1 (.t 12) (.t 15), none, 0, []⟩,
    ⟨none, .store 1 (.t 19) (.t 18), none, 0, []⟩])⟩

/-- slices.Sort[[]int,int]: it sorts -/
def slices_Sort_int_int : AFun := ⟨1, 11, false, [], .orc⟩

/-- A program that has them. -/
structure HasCo (P : Prog) : Prop where
  h_comps_Of : P 181 = some comps_Of
  h_comps_Back : P 184 = some comps_Back
  h_comps_touching : P 187 = some comps_touching
  h_comps_forest_root : P 186 = some comps_forest_root
  h_comps_forest_join : P 188 = some comps_forest_join
  h_slices_Sort_int_int : P 185 = some slices_Sort_int_int

end Go.Ab
