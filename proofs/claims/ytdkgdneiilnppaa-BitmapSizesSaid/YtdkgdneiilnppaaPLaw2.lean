/- The texts of functions of the given program, for the abstract machine: written by wip/tools/gen.py out of Lean's print of the translation. Conditions: none; definitions alone. -/
import Derived.Test.YtdkgdneiilnppaaAb
set_option linter.all false
namespace Go.Ab
-- burinlaw2_wakes: 99, parameters ; loops 
-- burinlaw2_maps: 100, parameters ?; loops burinlaw2_maps_l0 [0 ?, 5 ?, 6 ?, 7 ?]
-- burinlaw2_same: 101, parameters m b; loops 
-- burinlaw2_crop: 102, parameters ? ? ?; loops 
-- burinlaw2_BitmapExact: 103, parameters ?; loops burinlaw2_BitmapExact_l0 [1 ?, 3 ?, 4 ?, 6 ?]
-- burinlaw2_BitmapSizes: 104, parameters ?; loops burinlaw2_BitmapSizes_l0 [1 ?, 3 ?]
-- burinlaw2_BitmapBlits: 105, parameters ?; loops burinlaw2_BitmapBlits_l0 [1 ?, 3 ?, 7 ?, 8 ?, 9 ?, 10 ?, 11 ?, 12 ?, 13 ?, 14 ?]; burinlaw2_BitmapBlits_l1 [1 ?, 3 ?, 7 ?, 8 ?, 9 ?, 10 ?, 11 ?, 12 ?, 13 ?, 14 ?, 15 ?]
-- burinlaw2_BitmapSelf: 106, parameters ?; loops 
-- burinlaw2_BitmapTurns: 107, parameters ?; loops burinlaw2_BitmapTurns_l0 [1 ?, 3 ?, 5 ?, 8 ?, 9 ?]; burinlaw2_BitmapTurns_l1 [1 ?, 3 ?, 5 ?, 8 ?, 9 ?, 10 ?]
-- burinlaw2_BitmapFills: 108, parameters ?; loops 
-- burinlaw2_BitmapEqual: 109, parameters ?; loops burinlaw2_BitmapEqual_l0 [0 ?, 3 ?]; burinlaw2_BitmapEqual_l1 [0 ?, 3 ?, 4 ?]
-- burinlaw2_BitmapOps: 110, parameters ?; loops burinlaw2_BitmapOps_l0 [1 ?, 3 ?, 4 ?, 5 ?, 8 ?, 12 ?, 14 ?]; burinlaw2_BitmapOps_l1 [1 ?, 3 ?, 4 ?, 5 ?, 8 ?, 9 ?]; burinlaw2_BitmapOps_l2 [1 ?, 3 ?, 4 ?, 5 ?, 6 ?]; burinlaw2_BitmapOps_l3 [1 ?, 3 ?, 4 ?, 5 ?, 6 ?, 7 ?]
-- burinlaw2_BitmapCrops: 111, parameters ?; loops burinlaw2_BitmapCrops_l0 [1 ?, 3 ?, 5 ?, 6 ?, 7 ?, 8 ?, 9 ?, 16 ?, 17 ?]; burinlaw2_BitmapCrops_l1 [1 ?, 3 ?, 5 ?, 6 ?, 7 ?, 8 ?, 9 ?, 16 ?, 17 ?, 18 ?]

/-- burin/burinlaw2.wakes -/
def burinlaw2_wakes : AFun := ⟨0, 49, true, [.t 0],
  .seq (.reg false [] [⟨some 0, .mv (.c (.bool false)), none, 0, []⟩])
  (.seq (.reg false [1, 2] [⟨some 4, .call (.f 42) [(.c (.int .i64 4)), (.c (.int .i64 1))], none, 0, []⟩,
    ⟨some 3, .mv (.t 4), none, 0, []⟩,
    ⟨some 5, .ext 0 (.t 3), none, 0, []⟩,
    ⟨some 6, .ext 1 (.t 3), none, 0, []⟩,
    ⟨some 1, .mv (.t 5), none, 0, []⟩,
    ⟨some 2, .mv (.t 6), none, 0, []⟩])
  (.seq (.seq (.reg false [1, 28] [⟨some 7, .mv (.t 2), none, 0, []⟩,
    ⟨some 8, .bin .neq .num (.t 7) (.c (.int .i64 0)), none, 0, []⟩,
    ⟨some 9, .mv (.t 8), none, 0, []⟩,
    ⟨some 10, .mv (.t 1), some (9, false), 0, []⟩,
    ⟨some 11, .bin .eql .ptr (.t 10) (.c (.ptr none)), some (9, false), 0, []⟩,
    ⟨some 12, .pick (.t 9) (.c (.bool true)) (.t 11), none, 0, []⟩,
    ⟨some 13, .mv (.t 12), none, 0, []⟩,
    ⟨some 14, .mv (.t 1), some (13, false), 0, []⟩,
    ⟨some 15, .call (.f 50) [(.t 14), (.c (.int .i64 0)), (.c (.int .i64 0)), (.c (.int .i64 1))], some (13, false), 0, []⟩,
    ⟨some 16, .bin .neq .num (.t 15) (.c (.int .i64 0)), some (13, false), 0, []⟩,
    ⟨some 17, .pick (.t 13) (.c (.bool true)) (.t 16), none, 0, []⟩,
    ⟨some 18, .mv (.t 17), none, 0, []⟩,
    ⟨some 19, .mv (.t 1), some (18, false), 0, []⟩,
    ⟨some 20, .call (.f 50) [(.t 19), (.c (.int .i64 1)), (.c (.int .i64 0)), (.c (.int .i64 1))], some (18, false), 0, []⟩,
    ⟨some 21, .bin .neq .num (.t 20) (.c (.int .i64 0)), some (18, false), 0, []⟩,
    ⟨some 22, .pick (.t 18) (.c (.bool true)) (.t 21), none, 0, []⟩,
    ⟨some 23, .mv (.t 22), none, 0, []⟩,
    ⟨some 24, .mv (.t 1), some (23, false), 0, []⟩,
    ⟨some 25, .mv (.t 1), some (23, false), 0, []⟩,
    ⟨some 26, .call (.f 64) [(.t 24), (.t 25), (.c (.int .i64 0)), (.c (.int .i64 0)), (.c (.int .i64 3)), (.c (.int .i64 1)), (.c (.int .i64 1)), (.c (.int .i64 0)), (.c (.int .i64 4))], some (23, false), 0, []⟩,
    ⟨some 27, .bin .neq .num (.t 26) (.c (.int .i64 0)), some (23, false), 0, []⟩,
    ⟨some 28, .pick (.t 23) (.c (.bool true)) (.t 27), none, 0, []⟩])
  (.cond (.t 28) (.seq (.reg false [0] [⟨some 0, .mv (.c (.bool false)), none, 0, []⟩])
  (.ret))
  (.skip)))
  (.seq (.reg false [0] [⟨some 29, .mv (.t 1), none, 0, []⟩,
    ⟨some 30, .call (.f 52) [(.t 29)], none, 0, []⟩,
    ⟨some 31, .bin .eql .num (.t 30) (.c (.int .i64 3)), none, 0, []⟩,
    ⟨some 32, .mv (.t 31), none, 0, []⟩,
    ⟨some 33, .mv (.t 1), some (32, true), 0, []⟩,
    ⟨some 34, .call (.f 48) [(.t 33), (.c (.int .i64 2)), (.c (.int .i64 0))], some (32, true), 0, []⟩,
    ⟨some 35, .bin .eql .num (.t 34) (.c (.int .i64 1)), some (32, true), 0, []⟩,
    ⟨some 36, .pick (.t 32) (.t 35) (.c (.bool false)), none, 0, []⟩,
    ⟨some 37, .mv (.t 36), none, 0, []⟩,
    ⟨some 38, .mv (.t 1), some (37, true), 0, []⟩,
    ⟨some 39, .call (.f 48) [(.t 38), (.c (.int .i64 3)), (.c (.int .i64 0))], some (37, true), 0, []⟩,
    ⟨some 40, .bin .eql .num (.t 39) (.c (.int .i64 0)), some (37, true), 0, []⟩,
    ⟨some 41, .pick (.t 37) (.t 40) (.c (.bool false)), none, 0, []⟩,
    ⟨some 42, .mv (.t 41), none, 0, []⟩,
    ⟨some 43, .mv (.t 1), some (42, true), 0, []⟩,
    ⟨some 44, .call (.f 45) [(.t 43)], some (42, true), 0, []⟩,
    ⟨some 45, .bslice 1 [.int .u64 0] 1 [(0, (.c (.int .u64 16140901064495857664)))], some (42, true), 0, []⟩,
    ⟨some 46, .build [.int .i64 0, .int .i64 0, .sl none 0 0 0] [(0, 1, (.c (.int .i64 4))), (1, 1, (.c (.int .i64 1))), (2, 1, (.t 45))], some (42, true), 0, []⟩,
    ⟨some 47, .call (.f 84) [(.t 44), (.t 46)], some (42, true), 0, []⟩,
    ⟨some 48, .pick (.t 42) (.t 47) (.c (.bool false)), none, 0, []⟩,
    ⟨some 0, .mv (.t 48), none, 0, []⟩])
  (.ret))))⟩

def burinlaw2_maps_l0 : Cd := .seq (.seq (.reg false [0, 5, 6, 7, 20] [⟨some 12, .mv (.t 7), none, 0, []⟩,
    ⟨some 13, .mv (.t 0), none, 0, []⟩,
    ⟨some 14, .len none (.t 13), none, 0, []⟩,
    ⟨some 15, .bin .lss .num (.t 12) (.t 14), none, 0, []⟩,
    ⟨some 16, .mv (.t 15), none, 0, []⟩,
    ⟨some 17, .mv (.t 5), some (16, true), 0, []⟩,
    ⟨some 18, .len none (.t 17), some (16, true), 0, []⟩,
    ⟨some 19, .bin .lss .num (.t 18) (.c (.int .i64 4)), some (16, true), 0, []⟩,
    ⟨some 20, .pick (.t 16) (.t 19) (.c (.bool false)), none, 0, []⟩])
  (.cond (.t 20) (.skip)
  (.exit 0)))
  (.seq (.block 1 (.seq (.seq (.reg false [0, 5, 6, 7, 29] [⟨some 23, .mv (.t 0), none, 0, []⟩,
    ⟨some 24, .mv (.t 7), none, 0, []⟩,
    ⟨some 25, .iad none 3 (.t 23) (.t 24), none, 0, []⟩,
    ⟨some 26, .fad 2 (.t 25), none, 0, []⟩,
    ⟨some 27, .load none (.t 26), none, 0, []⟩,
    ⟨some 28, .len none (.t 27), none, 0, []⟩,
    ⟨some 29, .bin .gtr .num (.t 28) (.c (.int .i64 937)), none, 0, []⟩])
  (.cond (.t 29) (.exit 1)
  (.skip)))
  (.seq (.reg false [0, 5, 6, 7, 8] [⟨some 30, .mv (.t 0), none, 0, []⟩,
    ⟨some 31, .mv (.t 7), none, 0, []⟩,
    ⟨some 32, .iad none 3 (.t 30) (.t 31), none, 0, []⟩,
    ⟨some 33, .load (some 3) (.t 32), none, 0, []⟩,
    ⟨some 34, .call (.f 95) [(.t 33)], none, 0, []⟩,
    ⟨some 8, .alloc [.int .i64 0, .int .i64 0, .sl none 0 0 0], none, 0, []⟩,
    ⟨none, .store 3 (.t 8) (.t 34), none, 0, []⟩])
  (.seq (.reg false [0, 5, 6, 7, 8, 9] [⟨some 35, .mv (.t 0), none, 0, []⟩,
    ⟨some 36, .mv (.t 7), none, 0, []⟩,
    ⟨some 37, .iad none 3 (.t 35) (.t 36), none, 0, []⟩,
    ⟨some 38, .load (some 3) (.t 37), none, 0, []⟩,
    ⟨some 39, .call (.f 76) [(.t 38)], none, 0, []⟩,
    ⟨some 9, .mv (.t 39), none, 0, []⟩])
  (.seq (.seq (.reg false [0, 5, 6, 7, 8, 9, 43] [⟨some 40, .load (some 3) (.t 8), none, 0, []⟩,
    ⟨some 41, .call (.f 41) [(.t 40)], none, 0, []⟩,
    ⟨some 42, .mv (.t 9), none, 0, []⟩,
    ⟨some 43, .bin .neq .bool (.t 41) (.t 42), none, 0, []⟩])
  (.cond (.t 43) (.seq (.reg false [2, 3, 4] [⟨some 2, .mv (.c (.sl none 0 0 0)), none, 0, []⟩,
    ⟨some 3, .mv (.c (.sl none 0 0 0)), none, 0, []⟩,
    ⟨some 4, .mv (.c (.bool false)), none, 0, []⟩])
  (.ret))
  (.skip)))
  (.seq (.reg false [0, 5, 6, 7, 8, 9, 10, 11] [⟨some 45, .load (some 3) (.t 8), none, 0, []⟩,
    ⟨some 46, .call (.f 44) [(.t 45)], none, 0, []⟩,
    ⟨some 44, .mv (.t 46), none, 0, []⟩,
    ⟨some 47, .ext 0 (.t 44), none, 0, []⟩,
    ⟨some 48, .ext 1 (.t 44), none, 0, []⟩,
    ⟨some 10, .mv (.t 47), none, 0, []⟩,
    ⟨some 11, .mv (.t 48), none, 0, []⟩])
  (.seq (.seq (.reg true [0, 5, 6, 7, 9, 10, 75] [⟨some 49, .load (some 3) (.t 8), none, 0, []⟩,
    ⟨some 50, .mv (.t 0), none, 1, []⟩,
    ⟨some 51, .mv (.t 7), none, 2, []⟩,
    ⟨some 52, .iad none 3 (.t 50) (.t 51), none, 3, []⟩,
    ⟨some 53, .load (some 3) (.t 52), none, 4, []⟩,
    ⟨some 54, .call (.f 96) [(.t 49), (.t 53)], none, 5, []⟩,
    ⟨some 55, .un .not (.t 54), none, 6, []⟩,
    ⟨some 56, .mv (.t 55), none, 7, []⟩,
    ⟨some 57, .mv (.t 9), some (56, false), 8, []⟩,
    ⟨some 58, .mv (.t 11), some (56, false), 9, []⟩,
    ⟨some 59, .bin .eql .num (.t 58) (.c (.int .i64 0)), some (56, false), 10, []⟩,
    ⟨some 60, .bin .neq .bool (.t 57) (.t 59), some (56, false), 11, []⟩,
    ⟨some 61, .pick (.t 56) (.c (.bool true)) (.t 60), none, 12, []⟩,
    ⟨some 62, .mv (.t 61), none, 13, []⟩,
    ⟨some 63, .mv (.t 9), some (62, false), 14, []⟩,
    ⟨some 64, .mv (.t 10), some (62, false), 15, []⟩,
    ⟨some 65, .bin .neq .ptr (.t 64) (.c (.ptr none)), some (62, false), 16, []⟩,
    ⟨some 66, .bin .neq .bool (.t 63) (.t 65), some (62, false), 17, []⟩,
    ⟨some 67, .pick (.t 62) (.c (.bool true)) (.t 66), none, 18, []⟩,
    ⟨some 68, .mv (.t 67), none, 19, []⟩,
    ⟨some 69, .mv (.t 9), some (68, false), 20, []⟩,
    ⟨some 70, .un .not (.t 69), some (68, false), 21, []⟩,
    ⟨some 71, .mv (.t 70), some (68, false), 22, []⟩,
    ⟨some 72, .mv (.t 11), some (71, true), 23, []⟩,
    ⟨some 73, .bin .neq .num (.t 72) (.c (.int .i64 21)), some (71, true), 24, []⟩,
    ⟨some 74, .pick (.t 71) (.t 73) (.c (.bool false)), some (68, false), 25, []⟩,
    ⟨some 75, .pick (.t 68) (.c (.bool true)) (.t 74), none, 26, []⟩])
  (.cond (.t 75) (.seq (.reg false [2, 3, 4] [⟨some 2, .mv (.c (.sl none 0 0 0)), none, 0, []⟩,
    ⟨some 3, .mv (.c (.sl none 0 0 0)), none, 0, []⟩,
    ⟨some 4, .mv (.c (.bool false)), none, 0, []⟩])
  (.ret))
  (.skip)))
  (.seq (.reg false [0, 5, 6, 7, 10, 76] [⟨some 76, .mv (.t 9), none, 0, []⟩])
  (.cond (.t 76) (.seq (.reg false [0, 5, 6, 7] [⟨some 77, .mv (.t 5), none, 0, []⟩,
    ⟨some 78, .mv (.t 10), none, 0, []⟩,
    ⟨some 79, .bslice 1 [.ptr none] 1 [(0, (.t 78))], none, 0, []⟩,
    ⟨some 80, .append 1 8 (.t 77) (.t 79), none, 0, []⟩,
    ⟨some 5, .mv (.t 80), none, 0, []⟩])
  (.reg false [0, 5, 6, 7] [⟨some 81, .mv (.t 6), none, 0, []⟩,
    ⟨some 82, .mv (.t 0), none, 0, []⟩,
    ⟨some 83, .mv (.t 7), none, 0, []⟩,
    ⟨some 84, .iad none 3 (.t 82) (.t 83), none, 0, []⟩,
    ⟨some 85, .load (some 3) (.t 84), none, 0, []⟩,
    ⟨some 86, .call (.f 82) [(.t 85)], none, 0, []⟩,
    ⟨some 87, .bslice 3 [.int .i64 0, .int .i64 0, .sl none 0 0 0] 1 [(0, (.t 86))], none, 0, []⟩,
    ⟨some 88, .append 3 40 (.t 81) (.t 87), none, 0, []⟩,
    ⟨some 6, .mv (.t 88), none, 0, []⟩]))
  (.skip))))))))))
  (.reg false [0, 5, 6, 7] [⟨some 21, .mv (.t 7), none, 0, []⟩,
    ⟨some 22, .bin .add .num (.t 21) (.c (.int .i64 1)), none, 0, []⟩,
    ⟨some 7, .mv (.t 22), none, 0, []⟩]))
/-- burin/burinlaw2.maps -/
def burinlaw2_maps : AFun := ⟨1, 91, true, [.t 2, .t 3, .t 4],
  .seq (.reg false [0] [⟨some 2, .mv (.c (.sl none 0 0 0)), none, 0, []⟩,
    ⟨some 3, .mv (.c (.sl none 0 0 0)), none, 0, []⟩,
    ⟨some 4, .mv (.c (.bool false)), none, 0, []⟩])
  (.seq (.reg false [0, 5] [⟨some 5, .mv (.c (.sl none 0 0 0)), none, 0, []⟩])
  (.seq (.reg false [0, 5, 6] [⟨some 6, .mv (.c (.sl none 0 0 0)), none, 0, []⟩])
  (.seq (.seq (.reg false [0, 5, 6, 7] [⟨some 7, .mv (.c (.int .i64 0)), none, 0, []⟩])
  (.block 0 (.loop [0, 5, 6, 7] burinlaw2_maps_l0)))
  (.seq (.reg false [2, 3, 4] [⟨some 89, .mv (.t 5), none, 0, []⟩,
    ⟨some 90, .mv (.t 6), none, 0, []⟩,
    ⟨some 2, .mv (.t 89), none, 0, []⟩,
    ⟨some 3, .mv (.t 90), none, 0, []⟩,
    ⟨some 4, .mv (.c (.bool true)), none, 0, []⟩])
  (.ret)))))⟩

/-- burin/burinlaw2.same -/
def burinlaw2_same : AFun := ⟨2, 37, true, [.t 4],
  .seq (.reg false [0, 3] [⟨some 3, .box 3 (.t 1), none, 0, []⟩,
    ⟨some 4, .mv (.c (.bool false)), none, 0, []⟩])
  (.seq (.seq (.reg false [0, 3, 10] [⟨some 9, .mv (.t 0), none, 0, []⟩,
    ⟨some 10, .bin .eql .ptr (.t 9) (.c (.ptr none)), none, 0, []⟩])
  (.cond (.t 10) (.seq (.reg false [4] [⟨some 4, .mv (.c (.bool false)), none, 0, []⟩])
  (.ret))
  (.skip)))
  (.seq (.reg false [0, 3, 5] [⟨some 11, .mv (.t 0), none, 0, []⟩,
    ⟨some 12, .call (.f 45) [(.t 11)], none, 0, []⟩,
    ⟨some 5, .alloc [.int .i64 0, .int .i64 0, .sl none 0 0 0], none, 0, []⟩,
    ⟨none, .store 3 (.t 5) (.t 12), none, 0, []⟩])
  (.seq (.reg false [3, 5, 6, 7] [⟨some 14, .mv (.t 0), none, 0, []⟩,
    ⟨some 15, .call (.f 46) [(.t 14)], none, 0, []⟩,
    ⟨some 13, .mv (.t 15), none, 0, []⟩,
    ⟨some 16, .ext 0 (.t 13), none, 0, []⟩,
    ⟨some 17, .ext 1 (.t 13), none, 0, []⟩,
    ⟨some 6, .mv (.t 16), none, 0, []⟩,
    ⟨some 7, .mv (.t 17), none, 0, []⟩])
  (.seq (.reg false [5, 8] [⟨some 18, .load (some 3) (.t 5), none, 0, []⟩,
    ⟨some 19, .load (some 3) (.t 3), none, 0, []⟩,
    ⟨some 20, .call (.f 84) [(.t 18), (.t 19)], none, 0, []⟩,
    ⟨some 21, .mv (.t 20), none, 0, []⟩,
    ⟨some 22, .mv (.t 6), some (21, true), 0, []⟩,
    ⟨some 23, .fad 0 (.t 3), some (21, true), 0, []⟩,
    ⟨some 24, .load none (.t 23), some (21, true), 0, []⟩,
    ⟨some 25, .bin .eql .num (.t 22) (.t 24), some (21, true), 0, []⟩,
    ⟨some 26, .pick (.t 21) (.t 25) (.c (.bool false)), none, 0, []⟩,
    ⟨some 27, .mv (.t 26), none, 0, []⟩,
    ⟨some 28, .mv (.t 7), some (27, true), 0, []⟩,
    ⟨some 29, .fad 1 (.t 3), some (27, true), 0, []⟩,
    ⟨some 30, .load none (.t 29), some (27, true), 0, []⟩,
    ⟨some 31, .bin .eql .num (.t 28) (.t 30), some (27, true), 0, []⟩,
    ⟨some 32, .pick (.t 27) (.t 31) (.c (.bool false)), none, 0, []⟩,
    ⟨some 8, .mv (.t 32), none, 0, []⟩])
  (.seq (.reg false [8] [⟨some 33, .fad 2 (.t 5), none, 0, []⟩,
    ⟨some 34, .load none (.t 33), none, 0, []⟩,
    ⟨some 35, .call (.f 97) [(.t 34)], none, 0, []⟩])
  (.seq (.reg false [4] [⟨some 36, .mv (.t 8), none, 0, []⟩,
    ⟨some 4, .mv (.t 36), none, 0, []⟩])
  (.ret)))))))⟩

/-- burin/burinlaw2.crop -/
def burinlaw2_crop : AFun := ⟨3, 91, true, [.t 6],
  .seq (.reg false [0, 4, 5] [⟨some 4, .box 3 (.t 1), none, 0, []⟩,
    ⟨some 5, .box 8 (.t 2), none, 0, []⟩,
    ⟨some 6, .mv (.c (.bool false)), none, 0, []⟩])
  (.seq (.seq (.reg false [0, 4, 5, 47] [⟨some 11, .iad (some 8) 1 (.t 5) (.c (.int .i64 2)), none, 0, []⟩,
    ⟨some 12, .load none (.t 11), none, 0, []⟩,
    ⟨some 13, .bin .gtr .num (.t 12) (.c (.int .i64 0)), none, 0, []⟩,
    ⟨some 14, .mv (.t 13), none, 0, []⟩,
    ⟨some 15, .iad (some 8) 1 (.t 5) (.c (.int .i64 3)), some (14, true), 0, []⟩,
    ⟨some 16, .load none (.t 15), some (14, true), 0, []⟩,
    ⟨some 17, .bin .gtr .num (.t 16) (.c (.int .i64 0)), some (14, true), 0, []⟩,
    ⟨some 18, .pick (.t 14) (.t 17) (.c (.bool false)), none, 0, []⟩,
    ⟨some 19, .mv (.t 18), none, 0, []⟩,
    ⟨some 20, .iad (some 8) 1 (.t 5) (.c (.int .i64 2)), some (19, true), 0, []⟩,
    ⟨some 21, .load none (.t 20), some (19, true), 0, []⟩,
    ⟨some 22, .bin .leq .num (.t 21) (.c (.int .i64 1048576)), some (19, true), 0, []⟩,
    ⟨some 23, .pick (.t 19) (.t 22) (.c (.bool false)), none, 0, []⟩,
    ⟨some 24, .mv (.t 23), none, 0, []⟩,
    ⟨some 25, .iad (some 8) 1 (.t 5) (.c (.int .i64 3)), some (24, true), 0, []⟩,
    ⟨some 26, .load none (.t 25), some (24, true), 0, []⟩,
    ⟨some 27, .bin .leq .num (.t 26) (.c (.int .i64 1048576)), some (24, true), 0, []⟩,
    ⟨some 28, .pick (.t 24) (.t 27) (.c (.bool false)), none, 0, []⟩,
    ⟨some 29, .mv (.t 28), none, 0, []⟩,
    ⟨some 30, .iad (some 8) 1 (.t 5) (.c (.int .i64 2)), some (29, true), 0, []⟩,
    ⟨some 31, .load none (.t 30), some (29, true), 0, []⟩,
    ⟨some 32, .iad (some 8) 1 (.t 5) (.c (.int .i64 3)), some (29, true), 0, []⟩,
    ⟨some 33, .load none (.t 32), some (29, true), 0, []⟩,
    ⟨some 34, .call (.f 74) [(.t 31), (.t 33)], some (29, true), 0, []⟩,
    ⟨some 35, .pick (.t 29) (.t 34) (.c (.bool false)), none, 0, []⟩,
    ⟨some 36, .mv (.t 35), none, 0, []⟩,
    ⟨some 37, .iad (some 8) 1 (.t 5) (.c (.int .i64 2)), some (36, true), 0, []⟩,
    ⟨some 38, .load none (.t 37), some (36, true), 0, []⟩,
    ⟨some 39, .iad (some 8) 1 (.t 5) (.c (.int .i64 3)), some (36, true), 0, []⟩,
    ⟨some 40, .load none (.t 39), some (36, true), 0, []⟩,
    ⟨some 41, .bin .mul .num (.t 38) (.t 40), some (36, true), 0, []⟩,
    ⟨some 42, .iad (some 8) 1 (.t 5) (.c (.int .i64 3)), some (36, true), 0, []⟩,
    ⟨some 43, .load none (.t 42), some (36, true), 0, []⟩,
    ⟨some 44, .bin .mul .num (.c (.int .i64 64)) (.t 43), some (36, true), 0, []⟩,
    ⟨some 45, .bin .add .num (.t 41) (.t 44), some (36, true), 0, []⟩,
    ⟨some 46, .bin .gtr .num (.t 45) (.c (.int .i64 60000)), some (36, true), 0, []⟩,
    ⟨some 47, .pick (.t 36) (.t 46) (.c (.bool false)), none, 0, []⟩])
  (.cond (.t 47) (.seq (.reg false [6] [⟨some 6, .mv (.c (.bool true)), none, 0, []⟩])
  (.ret))
  (.skip)))
  (.seq (.reg false [4, 5, 7, 8] [⟨some 49, .mv (.t 0), none, 0, []⟩,
    ⟨some 50, .iad (some 8) 1 (.t 5) (.c (.int .i64 0)), none, 0, []⟩,
    ⟨some 51, .load none (.t 50), none, 0, []⟩,
    ⟨some 52, .iad (some 8) 1 (.t 5) (.c (.int .i64 1)), none, 0, []⟩,
    ⟨some 53, .load none (.t 52), none, 0, []⟩,
    ⟨some 54, .iad (some 8) 1 (.t 5) (.c (.int .i64 2)), none, 0, []⟩,
    ⟨some 55, .load none (.t 54), none, 0, []⟩,
    ⟨some 56, .iad (some 8) 1 (.t 5) (.c (.int .i64 3)), none, 0, []⟩,
    ⟨some 57, .load none (.t 56), none, 0, []⟩,
    ⟨some 58, .call (.f 65) [(.t 49), (.t 51), (.t 53), (.t 55), (.t 57)], none, 0, []⟩,
    ⟨some 48, .mv (.t 58), none, 0, []⟩,
    ⟨some 59, .ext 0 (.t 48), none, 0, []⟩,
    ⟨some 60, .ext 1 (.t 48), none, 0, []⟩,
    ⟨some 7, .mv (.t 59), none, 0, []⟩,
    ⟨some 8, .mv (.t 60), none, 0, []⟩])
  (.seq (.reg false [7, 8, 9, 10] [⟨some 62, .load (some 3) (.t 4), none, 0, []⟩,
    ⟨some 63, .iad (some 8) 1 (.t 5) (.c (.int .i64 0)), none, 0, []⟩,
    ⟨some 64, .load none (.t 63), none, 0, []⟩,
    ⟨some 65, .iad (some 8) 1 (.t 5) (.c (.int .i64 1)), none, 0, []⟩,
    ⟨some 66, .load none (.t 65), none, 0, []⟩,
    ⟨some 67, .iad (some 8) 1 (.t 5) (.c (.int .i64 2)), none, 0, []⟩,
    ⟨some 68, .load none (.t 67), none, 0, []⟩,
    ⟨some 69, .iad (some 8) 1 (.t 5) (.c (.int .i64 3)), none, 0, []⟩,
    ⟨some 70, .load none (.t 69), none, 0, []⟩,
    ⟨some 71, .call (.f 91) [(.t 62), (.t 64), (.t 66), (.t 68), (.t 70)], none, 0, []⟩,
    ⟨some 61, .mv (.t 71), none, 0, []⟩,
    ⟨some 72, .ext 0 (.t 61), none, 0, []⟩,
    ⟨some 73, .ext 1 (.t 61), none, 0, []⟩,
    ⟨some 9, .alloc [.int .i64 0, .int .i64 0, .sl none 0 0 0], none, 0, []⟩,
    ⟨none, .store 3 (.t 9) (.t 72), none, 0, []⟩,
    ⟨some 10, .mv (.t 73), none, 0, []⟩])
  (.seq (.seq (.reg false [7, 8, 9, 83] [⟨some 74, .mv (.t 8), none, 0, []⟩,
    ⟨some 75, .mv (.t 10), none, 0, []⟩,
    ⟨some 76, .bin .neq .num (.t 74) (.t 75), none, 0, []⟩,
    ⟨some 77, .mv (.t 76), none, 0, []⟩,
    ⟨some 78, .mv (.t 8), some (77, false), 0, []⟩,
    ⟨some 79, .bin .eql .num (.t 78) (.c (.int .i64 0)), some (77, false), 0, []⟩,
    ⟨some 80, .mv (.t 7), some (77, false), 0, []⟩,
    ⟨some 81, .bin .neq .ptr (.t 80) (.c (.ptr none)), some (77, false), 0, []⟩,
    ⟨some 82, .bin .neq .bool (.t 79) (.t 81), some (77, false), 0, []⟩,
    ⟨some 83, .pick (.t 77) (.c (.bool true)) (.t 82), none, 0, []⟩])
  (.cond (.t 83) (.seq (.reg false [6] [⟨some 6, .mv (.c (.bool false)), none, 0, []⟩])
  (.ret))
  (.skip)))
  (.seq (.reg false [6] [⟨some 84, .mv (.t 8), none, 0, []⟩,
    ⟨some 85, .bin .neq .num (.t 84) (.c (.int .i64 0)), none, 0, []⟩,
    ⟨some 86, .mv (.t 85), none, 0, []⟩,
    ⟨some 87, .mv (.t 7), some (86, false), 0, []⟩,
    ⟨some 88, .load (some 3) (.t 9), some (86, false), 0, []⟩,
    ⟨some 89, .call (.f 101) [(.t 87), (.t 88)], some (86, false), 0, []⟩,
    ⟨some 90, .pick (.t 86) (.c (.bool true)) (.t 89), none, 0, []⟩,
    ⟨some 6, .mv (.t 90), none, 0, []⟩])
  (.ret))))))⟩

def burinlaw2_BitmapExact_l0 : Cd := .seq (.seq (.reg false [1, 3, 4, 6, 35] [⟨some 22, .mv (.t 6), none, 0, []⟩,
    ⟨some 23, .fad 1 (.t 1), none, 0, []⟩,
    ⟨some 24, .load none (.t 23), none, 0, []⟩,
    ⟨some 25, .len none (.t 24), none, 0, []⟩,
    ⟨some 26, .bin .lss .num (.t 22) (.t 25), none, 0, []⟩,
    ⟨some 27, .mv (.t 26), none, 0, []⟩,
    ⟨some 28, .mv (.t 6), some (27, true), 0, []⟩,
    ⟨some 29, .bin .lss .num (.t 28) (.c (.int .i64 30)), some (27, true), 0, []⟩,
    ⟨some 30, .pick (.t 27) (.t 29) (.c (.bool false)), none, 0, []⟩,
    ⟨some 31, .mv (.t 30), none, 0, []⟩,
    ⟨some 32, .mv (.t 3), some (31, true), 0, []⟩,
    ⟨some 33, .len none (.t 32), some (31, true), 0, []⟩,
    ⟨some 34, .bin .gtr .num (.t 33) (.c (.int .i64 0)), some (31, true), 0, []⟩,
    ⟨some 35, .pick (.t 31) (.t 34) (.c (.bool false)), none, 0, []⟩])
  (.cond (.t 35) (.skip)
  (.exit 0)))
  (.seq (.block 1 (.seq (.reg false [1, 3, 4, 6, 7] [⟨some 38, .fad 1 (.t 1), none, 0, []⟩,
    ⟨some 39, .load none (.t 38), none, 0, []⟩,
    ⟨some 40, .mv (.t 6), none, 0, []⟩,
    ⟨some 41, .iad none 11 (.t 39) (.t 40), none, 0, []⟩,
    ⟨some 42, .load (some 11) (.t 41), none, 0, []⟩,
    ⟨some 7, .alloc [.int .i64 0, .int .i64 0, .int .i64 0, .int .i64 0, .int .i64 0, .int .i64 0, .int .i64 0, .int .i64 0, .int .i64 0, .int .i64 0, .int .i64 0], none, 0, []⟩,
    ⟨none, .store 11 (.t 7) (.t 42), none, 0, []⟩])
  (.seq (.reg false [1, 3, 4, 6, 7, 8] [⟨some 43, .fad 1 (.t 7), none, 0, []⟩,
    ⟨some 44, .load none (.t 43), none, 0, []⟩,
    ⟨some 45, .mv (.t 3), none, 0, []⟩,
    ⟨some 46, .len none (.t 45), none, 0, []⟩,
    ⟨some 47, .call (.f 29) [(.t 44), (.t 46)], none, 0, []⟩,
    ⟨some 8, .mv (.t 47), none, 0, []⟩])
  (.seq (.reg false [1, 3, 4, 6, 7, 8, 9] [⟨some 48, .fad 2 (.t 7), none, 0, []⟩,
    ⟨some 49, .load none (.t 48), none, 0, []⟩,
    ⟨some 50, .mv (.t 3), none, 0, []⟩,
    ⟨some 51, .len none (.t 50), none, 0, []⟩,
    ⟨some 52, .call (.f 29) [(.t 49), (.t 51)], none, 0, []⟩,
    ⟨some 9, .mv (.t 52), none, 0, []⟩])
  (.seq (.reg false [1, 3, 4, 6, 7, 8, 9, 10] [⟨some 53, .fad 3 (.t 7), none, 0, []⟩,
    ⟨some 54, .load (some 8) (.t 53), none, 0, []⟩,
    ⟨some 10, .alloc [.int .i64 0, .int .i64 0, .int .i64 0, .int .i64 0, .int .i64 0, .int .i64 0, .int .i64 0, .int .i64 0], none, 0, []⟩,
    ⟨none, .store 8 (.t 10) (.t 54), none, 0, []⟩])
  (.seq (.reg false [1, 3, 4, 6, 7, 8, 9, 10, 11, 12] [⟨some 11, .mv (.c (.int .i64 0)), none, 0, []⟩,
    ⟨some 12, .mv (.c (.int .i64 0)), none, 0, []⟩])
  (.seq (.seq (.reg false [1, 3, 4, 6, 8, 9, 10, 11, 12, 56] [⟨some 55, .fad 0 (.t 7), none, 0, []⟩,
    ⟨some 56, .load none (.t 55), none, 0, []⟩])
  (.block 2 (.seq (.reg false [1, 3, 4, 6, 8, 9, 10, 11, 12, 56, 68] [⟨some 69, .bin .eql .num (.t 56) (.c (.int .i64 0)), none, 0, []⟩,
    ⟨some 68, .mv (.t 69), none, 0, []⟩])
  (.cond (.t 68) (.seq (.reg true [1, 3, 4, 6, 8, 9, 10, 11] [⟨some 70, .mv (.t 3), none, 0, []⟩,
    ⟨some 71, .mv (.t 9), none, 1, []⟩,
    ⟨some 72, .iad none 1 (.t 70) (.t 71), none, 2, []⟩,
    ⟨some 73, .load none (.t 72), none, 3, []⟩,
    ⟨some 74, .iad (some 8) 1 (.t 10) (.c (.int .i64 0)), none, 4, []⟩,
    ⟨some 75, .load none (.t 74), none, 5, []⟩,
    ⟨some 76, .iad (some 8) 1 (.t 10) (.c (.int .i64 1)), none, 6, []⟩,
    ⟨some 77, .load none (.t 76), none, 7, []⟩,
    ⟨some 78, .iad (some 8) 1 (.t 10) (.c (.int .i64 2)), none, 8, []⟩,
    ⟨some 79, .load none (.t 78), none, 9, []⟩,
    ⟨some 80, .call (.f 50) [(.t 73), (.t 75), (.t 77), (.t 79)], none, 10, []⟩,
    ⟨some 11, .mv (.t 80), none, 11, []⟩])
  (.reg true [1, 3, 4, 6, 8, 9, 10, 11, 12] [⟨some 81, .mv (.t 4), none, 0, []⟩,
    ⟨some 82, .mv (.t 9), none, 1, []⟩,
    ⟨some 83, .iad none 3 (.t 81) (.t 82), none, 2, []⟩,
    ⟨some 84, .load (some 3) (.t 83), none, 3, []⟩,
    ⟨some 85, .iad (some 8) 1 (.t 10) (.c (.int .i64 0)), none, 4, []⟩,
    ⟨some 86, .load none (.t 85), none, 5, []⟩,
    ⟨some 87, .iad (some 8) 1 (.t 10) (.c (.int .i64 1)), none, 6, []⟩,
    ⟨some 88, .load none (.t 87), none, 7, []⟩,
    ⟨some 89, .iad (some 8) 1 (.t 10) (.c (.int .i64 2)), none, 8, []⟩,
    ⟨some 90, .load none (.t 89), none, 9, []⟩,
    ⟨some 91, .call (.f 85) [(.t 84), (.t 86), (.t 88), (.t 90)], none, 10, []⟩,
    ⟨some 12, .mv (.t 91), none, 11, []⟩]))
  (.seq (.reg false [1, 3, 4, 6, 8, 9, 10, 11, 12, 56, 92] [⟨some 93, .bin .eql .num (.t 56) (.c (.int .i64 1)), none, 0, []⟩,
    ⟨some 92, .mv (.t 93), none, 0, []⟩])
  (.cond (.t 92) (.seq (.reg true [1, 3, 4, 6, 8, 9, 10, 11] [⟨some 94, .mv (.t 3), none, 0, []⟩,
    ⟨some 95, .mv (.t 9), none, 1, []⟩,
    ⟨some 96, .iad none 1 (.t 94) (.t 95), none, 2, []⟩,
    ⟨some 97, .load none (.t 96), none, 3, []⟩,
    ⟨some 98, .iad (some 8) 1 (.t 10) (.c (.int .i64 0)), none, 4, []⟩,
    ⟨some 99, .load none (.t 98), none, 5, []⟩,
    ⟨some 100, .iad (some 8) 1 (.t 10) (.c (.int .i64 1)), none, 6, []⟩,
    ⟨some 101, .load none (.t 100), none, 7, []⟩,
    ⟨some 102, .iad (some 8) 1 (.t 10) (.c (.int .i64 2)), none, 8, []⟩,
    ⟨some 103, .load none (.t 102), none, 9, []⟩,
    ⟨some 104, .iad (some 8) 1 (.t 10) (.c (.int .i64 3)), none, 10, []⟩,
    ⟨some 105, .load none (.t 104), none, 11, []⟩,
    ⟨some 106, .iad (some 8) 1 (.t 10) (.c (.int .i64 4)), none, 12, []⟩,
    ⟨some 107, .load none (.t 106), none, 13, []⟩,
    ⟨some 108, .call (.f 56) [(.t 97), (.t 99), (.t 101), (.t 103), (.t 105), (.t 107)], none, 14, []⟩,
    ⟨some 11, .mv (.t 108), none, 15, []⟩])
  (.reg true [1, 3, 4, 6, 8, 9, 10, 11, 12] [⟨some 109, .mv (.t 4), none, 0, []⟩,
    ⟨some 110, .mv (.t 9), none, 1, []⟩,
    ⟨some 111, .iad none 3 (.t 109) (.t 110), none, 2, []⟩,
    ⟨some 112, .load (some 3) (.t 111), none, 3, []⟩,
    ⟨some 113, .iad (some 8) 1 (.t 10) (.c (.int .i64 0)), none, 4, []⟩,
    ⟨some 114, .load none (.t 113), none, 5, []⟩,
    ⟨some 115, .iad (some 8) 1 (.t 10) (.c (.int .i64 1)), none, 6, []⟩,
    ⟨some 116, .load none (.t 115), none, 7, []⟩,
    ⟨some 117, .iad (some 8) 1 (.t 10) (.c (.int .i64 2)), none, 8, []⟩,
    ⟨some 118, .load none (.t 117), none, 9, []⟩,
    ⟨some 119, .iad (some 8) 1 (.t 10) (.c (.int .i64 3)), none, 10, []⟩,
    ⟨some 120, .load none (.t 119), none, 11, []⟩,
    ⟨some 121, .iad (some 8) 1 (.t 10) (.c (.int .i64 4)), none, 12, []⟩,
    ⟨some 122, .load none (.t 121), none, 13, []⟩,
    ⟨some 123, .call (.f 87) [(.t 112), (.t 114), (.t 116), (.t 118), (.t 120), (.t 122)], none, 14, []⟩,
    ⟨some 12, .mv (.t 123), none, 15, []⟩]))
  (.seq (.reg false [1, 3, 4, 6, 8, 9, 10, 11, 12, 56, 124] [⟨some 125, .bin .eql .num (.t 56) (.c (.int .i64 2)), none, 0, []⟩,
    ⟨some 124, .mv (.t 125), none, 0, []⟩])
  (.cond (.t 124) (.seq (.reg true [1, 3, 4, 6, 8, 9, 10, 11] [⟨some 126, .mv (.t 3), none, 0, []⟩,
    ⟨some 127, .mv (.t 9), none, 1, []⟩,
    ⟨some 128, .iad none 1 (.t 126) (.t 127), none, 2, []⟩,
    ⟨some 129, .load none (.t 128), none, 3, []⟩,
    ⟨some 130, .mv (.t 3), none, 4, []⟩,
    ⟨some 131, .mv (.t 8), none, 5, []⟩,
    ⟨some 132, .iad none 1 (.t 130) (.t 131), none, 6, []⟩,
    ⟨some 133, .load none (.t 132), none, 7, []⟩,
    ⟨some 134, .iad (some 8) 1 (.t 10) (.c (.int .i64 0)), none, 8, []⟩,
    ⟨some 135, .load none (.t 134), none, 9, []⟩,
    ⟨some 136, .iad (some 8) 1 (.t 10) (.c (.int .i64 1)), none, 10, []⟩,
    ⟨some 137, .load none (.t 136), none, 11, []⟩,
    ⟨some 138, .iad (some 8) 1 (.t 10) (.c (.int .i64 2)), none, 12, []⟩,
    ⟨some 139, .load none (.t 138), none, 13, []⟩,
    ⟨some 140, .iad (some 8) 1 (.t 10) (.c (.int .i64 3)), none, 14, []⟩,
    ⟨some 141, .load none (.t 140), none, 15, []⟩,
    ⟨some 142, .iad (some 8) 1 (.t 10) (.c (.int .i64 4)), none, 16, []⟩,
    ⟨some 143, .load none (.t 142), none, 17, []⟩,
    ⟨some 144, .iad (some 8) 1 (.t 10) (.c (.int .i64 5)), none, 18, []⟩,
    ⟨some 145, .load none (.t 144), none, 19, []⟩,
    ⟨some 146, .iad (some 8) 1 (.t 10) (.c (.int .i64 6)), none, 20, []⟩,
    ⟨some 147, .load none (.t 146), none, 21, []⟩,
    ⟨some 148, .call (.f 64) [(.t 129), (.t 133), (.t 135), (.t 137), (.t 139), (.t 141), (.t 143), (.t 145), (.t 147)], none, 22, []⟩,
    ⟨some 11, .mv (.t 148), none, 23, []⟩])
  (.reg true [1, 3, 4, 6, 8, 9, 10, 11, 12] [⟨some 149, .mv (.t 4), none, 0, []⟩,
    ⟨some 150, .mv (.t 9), none, 1, []⟩,
    ⟨some 151, .iad none 3 (.t 149) (.t 150), none, 2, []⟩,
    ⟨some 152, .load (some 3) (.t 151), none, 3, []⟩,
    ⟨some 153, .mv (.t 4), none, 4, []⟩,
    ⟨some 154, .mv (.t 8), none, 5, []⟩,
    ⟨some 155, .iad none 3 (.t 153) (.t 154), none, 6, []⟩,
    ⟨some 156, .load (some 3) (.t 155), none, 7, []⟩,
    ⟨some 157, .iad (some 8) 1 (.t 10) (.c (.int .i64 0)), none, 8, []⟩,
    ⟨some 158, .load none (.t 157), none, 9, []⟩,
    ⟨some 159, .iad (some 8) 1 (.t 10) (.c (.int .i64 1)), none, 10, []⟩,
    ⟨some 160, .load none (.t 159), none, 11, []⟩,
    ⟨some 161, .iad (some 8) 1 (.t 10) (.c (.int .i64 2)), none, 12, []⟩,
    ⟨some 162, .load none (.t 161), none, 13, []⟩,
    ⟨some 163, .iad (some 8) 1 (.t 10) (.c (.int .i64 3)), none, 14, []⟩,
    ⟨some 164, .load none (.t 163), none, 15, []⟩,
    ⟨some 165, .iad (some 8) 1 (.t 10) (.c (.int .i64 4)), none, 16, []⟩,
    ⟨some 166, .load none (.t 165), none, 17, []⟩,
    ⟨some 167, .iad (some 8) 1 (.t 10) (.c (.int .i64 5)), none, 18, []⟩,
    ⟨some 168, .load none (.t 167), none, 19, []⟩,
    ⟨some 169, .iad (some 8) 1 (.t 10) (.c (.int .i64 6)), none, 20, []⟩,
    ⟨some 170, .load none (.t 169), none, 21, []⟩,
    ⟨some 171, .call (.f 90) [(.t 152), (.t 156), (.t 158), (.t 160), (.t 162), (.t 164), (.t 166), (.t 168), (.t 170)], none, 22, []⟩,
    ⟨some 12, .mv (.t 171), none, 23, []⟩]))
  (.seq (.reg false [1, 3, 4, 6, 8, 9, 10, 11, 12, 56, 172] [⟨some 173, .bin .eql .num (.t 56) (.c (.int .i64 3)), none, 0, []⟩,
    ⟨some 172, .mv (.t 173), none, 0, []⟩])
  (.cond (.t 172) (.seq (.reg false [1, 3, 4, 6, 8, 9, 10, 11, 12] [⟨some 174, .mv (.t 3), none, 0, []⟩,
    ⟨some 175, .mv (.t 9), none, 0, []⟩,
    ⟨some 176, .iad none 1 (.t 174) (.t 175), none, 0, []⟩,
    ⟨some 177, .load none (.t 176), none, 0, []⟩,
    ⟨some 178, .call (.f 66) [(.t 177)], none, 0, []⟩])
  (.reg false [1, 3, 4, 6, 8, 9, 10, 11, 12] [⟨some 179, .mv (.t 4), none, 0, []⟩,
    ⟨some 180, .mv (.t 9), none, 0, []⟩,
    ⟨some 181, .iad none 3 (.t 179) (.t 180), none, 0, []⟩,
    ⟨some 182, .load (some 3) (.t 181), none, 0, []⟩,
    ⟨some 183, .call (.f 94) [(.t 182)], none, 0, []⟩]))
  (.seq (.reg false [1, 3, 4, 6, 8, 9, 10, 11, 12, 56, 184] [⟨some 185, .bin .eql .num (.t 56) (.c (.int .i64 4)), none, 0, []⟩,
    ⟨some 184, .mv (.t 185), none, 0, []⟩])
  (.cond (.t 184) (.seq (.reg false [1, 3, 4, 6, 8, 9, 10, 11, 12] [⟨some 186, .mv (.t 3), none, 0, []⟩,
    ⟨some 187, .mv (.t 9), none, 0, []⟩,
    ⟨some 188, .mv (.t 3), none, 0, []⟩,
    ⟨some 189, .mv (.t 8), none, 0, []⟩,
    ⟨some 190, .iad none 1 (.t 188) (.t 189), none, 0, []⟩,
    ⟨some 191, .load none (.t 190), none, 0, []⟩,
    ⟨some 192, .call (.f 69) [(.t 191)], none, 0, []⟩,
    ⟨some 193, .iad none 1 (.t 186) (.t 187), none, 0, []⟩,
    ⟨none, .store 1 (.t 193) (.t 192), none, 0, []⟩])
  (.reg false [1, 3, 4, 6, 8, 9, 10, 11, 12] [⟨some 194, .mv (.t 4), none, 0, []⟩,
    ⟨some 195, .mv (.t 9), none, 0, []⟩,
    ⟨some 196, .mv (.t 4), none, 0, []⟩,
    ⟨some 197, .mv (.t 8), none, 0, []⟩,
    ⟨some 198, .iad none 3 (.t 196) (.t 197), none, 0, []⟩,
    ⟨some 199, .load (some 3) (.t 198), none, 0, []⟩,
    ⟨some 200, .call (.f 92) [(.t 199)], none, 0, []⟩,
    ⟨some 201, .iad none 3 (.t 194) (.t 195), none, 0, []⟩,
    ⟨none, .store 3 (.t 201) (.t 200), none, 0, []⟩]))
  (.seq (.reg false [1, 3, 4, 6, 8, 9, 10, 11, 12, 202] [⟨some 203, .bin .eql .num (.t 56) (.c (.int .i64 5)), none, 0, []⟩,
    ⟨some 202, .mv (.t 203), none, 0, []⟩])
  (.cond (.t 202) (.seq (.reg false [1, 3, 4, 6, 8, 9, 10, 11, 12] [⟨some 204, .mv (.t 3), none, 0, []⟩,
    ⟨some 205, .mv (.t 9), none, 0, []⟩,
    ⟨some 206, .mv (.t 3), none, 0, []⟩,
    ⟨some 207, .mv (.t 8), none, 0, []⟩,
    ⟨some 208, .iad none 1 (.t 206) (.t 207), none, 0, []⟩,
    ⟨some 209, .load none (.t 208), none, 0, []⟩,
    ⟨some 210, .call (.f 71) [(.t 209)], none, 0, []⟩,
    ⟨some 211, .iad none 1 (.t 204) (.t 205), none, 0, []⟩,
    ⟨none, .store 1 (.t 211) (.t 210), none, 0, []⟩])
  (.reg false [1, 3, 4, 6, 8, 9, 10, 11, 12] [⟨some 212, .mv (.t 4), none, 0, []⟩,
    ⟨some 213, .mv (.t 9), none, 0, []⟩,
    ⟨some 214, .mv (.t 4), none, 0, []⟩,
    ⟨some 215, .mv (.t 8), none, 0, []⟩,
    ⟨some 216, .iad none 3 (.t 214) (.t 215), none, 0, []⟩,
    ⟨some 217, .load (some 3) (.t 216), none, 0, []⟩,
    ⟨some 218, .call (.f 93) [(.t 217)], none, 0, []⟩,
    ⟨some 219, .iad none 3 (.t 212) (.t 213), none, 0, []⟩,
    ⟨none, .store 3 (.t 219) (.t 218), none, 0, []⟩]))
  (.seq (.reg true [1, 3, 4, 6, 8, 9, 10, 11, 12, 67] [⟨some 57, .mv (.t 3), none, 0, []⟩,
    ⟨some 58, .mv (.t 8), none, 1, []⟩,
    ⟨some 59, .iad none 1 (.t 57) (.t 58), none, 2, []⟩,
    ⟨some 60, .load none (.t 59), none, 3, []⟩,
    ⟨some 61, .mv (.t 4), none, 4, []⟩,
    ⟨some 62, .mv (.t 8), none, 5, []⟩,
    ⟨some 63, .iad none 3 (.t 61) (.t 62), none, 6, []⟩,
    ⟨some 64, .load (some 3) (.t 63), none, 7, []⟩,
    ⟨some 65, .load (some 8) (.t 10), none, 8, []⟩,
    ⟨some 66, .call (.f 102) [(.t 60), (.t 64), (.t 65)], none, 9, []⟩,
    ⟨some 67, .un .not (.t 66), none, 10, []⟩])
  (.cond (.t 67) (.seq (.reg false [2] [⟨some 2, .mv (.c (.bool false)), none, 0, []⟩])
  (.ret))
  (.skip)))))))))))))))))
  (.seq (.reg true [1, 3, 4, 6, 280] [⟨some 220, .mv (.t 11), none, 0, []⟩,
    ⟨some 221, .mv (.t 12), none, 1, []⟩,
    ⟨some 222, .bin .neq .num (.t 220) (.t 221), none, 2, []⟩,
    ⟨some 223, .mv (.t 222), none, 3, []⟩,
    ⟨some 224, .mv (.t 3), some (223, false), 4, []⟩,
    ⟨some 225, .mv (.t 9), some (223, false), 5, []⟩,
    ⟨some 226, .iad none 1 (.t 224) (.t 225), some (223, false), 6, []⟩,
    ⟨some 227, .load none (.t 226), some (223, false), 7, []⟩,
    ⟨some 228, .mv (.t 4), some (223, false), 8, []⟩,
    ⟨some 229, .mv (.t 9), some (223, false), 9, []⟩,
    ⟨some 230, .iad none 3 (.t 228) (.t 229), some (223, false), 10, []⟩,
    ⟨some 231, .load (some 3) (.t 230), some (223, false), 11, []⟩,
    ⟨some 232, .call (.f 101) [(.t 227), (.t 231)], some (223, false), 12, []⟩,
    ⟨some 233, .un .not (.t 232), some (223, false), 13, []⟩,
    ⟨some 234, .pick (.t 223) (.c (.bool true)) (.t 233), none, 14, []⟩,
    ⟨some 235, .mv (.t 234), none, 15, []⟩,
    ⟨some 236, .mv (.t 3), some (235, false), 16, []⟩,
    ⟨some 237, .mv (.t 8), some (235, false), 17, []⟩,
    ⟨some 238, .iad none 1 (.t 236) (.t 237), some (235, false), 18, []⟩,
    ⟨some 239, .load none (.t 238), some (235, false), 19, []⟩,
    ⟨some 240, .mv (.t 4), some (235, false), 20, []⟩,
    ⟨some 241, .mv (.t 8), some (235, false), 21, []⟩,
    ⟨some 242, .iad none 3 (.t 240) (.t 241), some (235, false), 22, []⟩,
    ⟨some 243, .load (some 3) (.t 242), some (235, false), 23, []⟩,
    ⟨some 244, .call (.f 101) [(.t 239), (.t 243)], some (235, false), 24, []⟩,
    ⟨some 245, .un .not (.t 244), some (235, false), 25, []⟩,
    ⟨some 246, .pick (.t 235) (.c (.bool true)) (.t 245), none, 26, []⟩,
    ⟨some 247, .mv (.t 246), none, 27, []⟩,
    ⟨some 248, .mv (.t 3), some (247, false), 28, []⟩,
    ⟨some 249, .mv (.t 9), some (247, false), 29, []⟩,
    ⟨some 250, .iad none 1 (.t 248) (.t 249), some (247, false), 30, []⟩,
    ⟨some 251, .load none (.t 250), some (247, false), 31, []⟩,
    ⟨some 252, .iad (some 8) 1 (.t 10) (.c (.int .i64 0)), some (247, false), 32, []⟩,
    ⟨some 253, .load none (.t 252), some (247, false), 33, []⟩,
    ⟨some 254, .iad (some 8) 1 (.t 10) (.c (.int .i64 1)), some (247, false), 34, []⟩,
    ⟨some 255, .load none (.t 254), some (247, false), 35, []⟩,
    ⟨some 257, .mv (.t 4), some (247, false), 37, []⟩,
    ⟨some 258, .mv (.t 9), some (247, false), 38, []⟩,
    ⟨some 259, .iad none 3 (.t 257) (.t 258), some (247, false), 39, []⟩,
    ⟨some 260, .load (some 3) (.t 259), some (247, false), 40, []⟩,
    ⟨some 261, .iad (some 8) 1 (.t 10) (.c (.int .i64 0)), some (247, false), 41, []⟩,
    ⟨some 262, .load none (.t 261), some (247, false), 42, []⟩,
    ⟨some 263, .iad (some 8) 1 (.t 10) (.c (.int .i64 1)), some (247, false), 43, []⟩,
    ⟨some 264, .load none (.t 263), some (247, false), 44, []⟩,
    ⟨some 256, .call (.f 48) [(.t 251), (.t 253), (.t 255)], some (247, false), 36, [40, 42, 44]⟩,
    ⟨some 265, .call (.f 78) [(.t 260), (.t 262), (.t 264)], some (247, false), 45, []⟩,
    ⟨some 266, .bin .neq .num (.t 256) (.t 265), some (247, false), 46, []⟩,
    ⟨some 267, .pick (.t 247) (.c (.bool true)) (.t 266), none, 47, []⟩,
    ⟨some 268, .mv (.t 267), none, 48, []⟩,
    ⟨some 269, .mv (.t 3), some (268, false), 49, []⟩,
    ⟨some 270, .mv (.t 9), some (268, false), 50, []⟩,
    ⟨some 271, .iad none 1 (.t 269) (.t 270), some (268, false), 51, []⟩,
    ⟨some 272, .load none (.t 271), some (268, false), 52, []⟩,
    ⟨some 274, .mv (.t 4), some (268, false), 54, []⟩,
    ⟨some 275, .mv (.t 9), some (268, false), 55, []⟩,
    ⟨some 276, .iad none 3 (.t 274) (.t 275), some (268, false), 56, []⟩,
    ⟨some 277, .load (some 3) (.t 276), some (268, false), 57, []⟩,
    ⟨some 273, .call (.f 52) [(.t 272)], some (268, false), 53, [57]⟩,
    ⟨some 278, .call (.f 81) [(.t 277)], some (268, false), 58, []⟩,
    ⟨some 279, .bin .neq .num (.t 273) (.t 278), some (268, false), 59, []⟩,
    ⟨some 280, .pick (.t 268) (.c (.bool true)) (.t 279), none, 60, []⟩])
  (.cond (.t 280) (.seq (.reg false [2] [⟨some 2, .mv (.c (.bool false)), none, 0, []⟩])
  (.ret))
  (.skip))))))))))
  (.reg false [1, 3, 4, 6] [⟨some 36, .mv (.t 6), none, 0, []⟩,
    ⟨some 37, .bin .add .num (.t 36) (.c (.int .i64 1)), none, 0, []⟩,
    ⟨some 6, .mv (.t 37), none, 0, []⟩]))
/-- burin/burinlaw2.BitmapExact -/
def burinlaw2_BitmapExact : AFun := ⟨1, 282, true, [.t 2],
  .seq (.reg false [1] [⟨some 1, .box 2 (.t 0), none, 0, []⟩,
    ⟨some 2, .mv (.c (.bool false)), none, 0, []⟩])
  (.seq (.reg false [1, 3, 4, 5] [⟨some 14, .fad 0 (.t 1), none, 0, []⟩,
    ⟨some 15, .load none (.t 14), none, 0, []⟩,
    ⟨some 16, .call (.f 100) [(.t 15)], none, 0, []⟩,
    ⟨some 13, .mv (.t 16), none, 0, []⟩,
    ⟨some 17, .ext 0 (.t 13), none, 0, []⟩,
    ⟨some 18, .ext 1 (.t 13), none, 0, []⟩,
    ⟨some 19, .ext 2 (.t 13), none, 0, []⟩,
    ⟨some 3, .mv (.t 17), none, 0, []⟩,
    ⟨some 4, .mv (.t 18), none, 0, []⟩,
    ⟨some 5, .mv (.t 19), none, 0, []⟩])
  (.seq (.seq (.reg false [1, 3, 4, 21] [⟨some 20, .mv (.t 5), none, 0, []⟩,
    ⟨some 21, .un .not (.t 20), none, 0, []⟩])
  (.cond (.t 21) (.seq (.reg false [2] [⟨some 2, .mv (.c (.bool false)), none, 0, []⟩])
  (.ret))
  (.skip)))
  (.seq (.seq (.reg false [1, 3, 4, 6] [⟨some 6, .mv (.c (.int .i64 0)), none, 0, []⟩])
  (.block 0 (.loop [1, 3, 4, 6] burinlaw2_BitmapExact_l0)))
  (.seq (.reg false [2] [⟨some 281, .call (.f 99) [], none, 0, []⟩,
    ⟨some 2, .mv (.t 281), none, 0, []⟩])
  (.ret)))))⟩

def burinlaw2_BitmapSizes_l0 : Cd := .seq (.seq (.reg false [1, 3, 23] [⟨some 8, .mv (.t 3), none, 0, []⟩,
    ⟨some 9, .fad 0 (.t 1), none, 0, []⟩,
    ⟨some 10, .load none (.t 9), none, 0, []⟩,
    ⟨some 11, .len none (.t 10), none, 0, []⟩,
    ⟨some 12, .bin .lss .num (.t 8) (.t 11), none, 0, []⟩,
    ⟨some 13, .mv (.t 12), none, 0, []⟩,
    ⟨some 14, .mv (.t 3), some (13, true), 0, []⟩,
    ⟨some 15, .fad 1 (.t 1), some (13, true), 0, []⟩,
    ⟨some 16, .load none (.t 15), some (13, true), 0, []⟩,
    ⟨some 17, .len none (.t 16), some (13, true), 0, []⟩,
    ⟨some 18, .bin .lss .num (.t 14) (.t 17), some (13, true), 0, []⟩,
    ⟨some 19, .pick (.t 13) (.t 18) (.c (.bool false)), none, 0, []⟩,
    ⟨some 20, .mv (.t 19), none, 0, []⟩,
    ⟨some 21, .mv (.t 3), some (20, true), 0, []⟩,
    ⟨some 22, .bin .lss .num (.t 21) (.c (.int .i64 12)), some (20, true), 0, []⟩,
    ⟨some 23, .pick (.t 20) (.t 22) (.c (.bool false)), none, 0, []⟩])
  (.cond (.t 23) (.skip)
  (.exit 0)))
  (.seq (.block 1 (.seq (.reg false [1, 3, 4] [⟨some 26, .fad 0 (.t 1), none, 0, []⟩,
    ⟨some 27, .load none (.t 26), none, 0, []⟩,
    ⟨some 28, .mv (.t 3), none, 0, []⟩,
    ⟨some 29, .iad none 1 (.t 27) (.t 28), none, 0, []⟩,
    ⟨some 30, .load none (.t 29), none, 0, []⟩,
    ⟨some 4, .mv (.t 30), none, 0, []⟩])
  (.seq (.reg false [1, 3, 4, 5] [⟨some 31, .fad 1 (.t 1), none, 0, []⟩,
    ⟨some 32, .load none (.t 31), none, 0, []⟩,
    ⟨some 33, .mv (.t 3), none, 0, []⟩,
    ⟨some 34, .iad none 1 (.t 32) (.t 33), none, 0, []⟩,
    ⟨some 35, .load none (.t 34), none, 0, []⟩,
    ⟨some 5, .mv (.t 35), none, 0, []⟩])
  (.seq (.reg false [1, 3, 4, 5, 6, 7] [⟨some 37, .mv (.t 4), none, 0, []⟩,
    ⟨some 38, .mv (.t 5), none, 0, []⟩,
    ⟨some 39, .call (.f 42) [(.t 37), (.t 38)], none, 0, []⟩,
    ⟨some 36, .mv (.t 39), none, 0, []⟩,
    ⟨some 40, .ext 0 (.t 36), none, 0, []⟩,
    ⟨some 41, .ext 1 (.t 36), none, 0, []⟩,
    ⟨some 6, .mv (.t 40), none, 0, []⟩,
    ⟨some 7, .mv (.t 41), none, 0, []⟩])
  (.seq (.seq (.reg false [1, 3, 4, 5, 6, 7, 45] [⟨some 42, .mv (.t 4), none, 0, []⟩,
    ⟨some 43, .mv (.t 5), none, 0, []⟩,
    ⟨some 44, .call (.f 74) [(.t 42), (.t 43)], none, 0, []⟩,
    ⟨some 45, .un .not (.t 44), none, 0, []⟩])
  (.cond (.t 45) (.seq (.seq (.reg false [1, 3, 51] [⟨some 46, .mv (.t 6), none, 0, []⟩,
    ⟨some 47, .bin .neq .ptr (.t 46) (.c (.ptr none)), none, 0, []⟩,
    ⟨some 48, .mv (.t 47), none, 0, []⟩,
    ⟨some 49, .mv (.t 7), some (48, false), 0, []⟩,
    ⟨some 50, .bin .neq .num (.t 49) (.c (.int .i64 20)), some (48, false), 0, []⟩,
    ⟨some 51, .pick (.t 48) (.c (.bool true)) (.t 50), none, 0, []⟩])
  (.cond (.t 51) (.seq (.reg false [2] [⟨some 2, .mv (.c (.bool false)), none, 0, []⟩])
  (.ret))
  (.skip)))
  (.exit 1))
  (.skip)))
  (.seq (.reg false [1, 3, 115] [⟨some 52, .mv (.t 6), none, 0, []⟩,
    ⟨some 53, .bin .eql .ptr (.t 52) (.c (.ptr none)), none, 0, []⟩,
    ⟨some 54, .mv (.t 53), none, 0, []⟩,
    ⟨some 55, .mv (.t 7), some (54, false), 0, []⟩,
    ⟨some 56, .bin .neq .num (.t 55) (.c (.int .i64 0)), some (54, false), 0, []⟩,
    ⟨some 57, .pick (.t 54) (.c (.bool true)) (.t 56), none, 0, []⟩,
    ⟨some 58, .mv (.t 57), none, 0, []⟩,
    ⟨some 59, .mv (.t 6), some (58, false), 0, []⟩,
    ⟨some 60, .call (.f 52) [(.t 59)], some (58, false), 0, []⟩,
    ⟨some 61, .bin .neq .num (.t 60) (.c (.int .i64 0)), some (58, false), 0, []⟩,
    ⟨some 62, .pick (.t 58) (.c (.bool true)) (.t 61), none, 0, []⟩,
    ⟨some 63, .mv (.t 62), none, 0, []⟩,
    ⟨some 64, .mv (.t 6), some (63, false), 0, []⟩,
    ⟨some 65, .mv (.t 4), some (63, false), 0, []⟩,
    ⟨some 66, .bin .sub .num (.t 65) (.c (.int .i64 1)), some (63, false), 0, []⟩,
    ⟨some 67, .mv (.t 5), some (63, false), 0, []⟩,
    ⟨some 68, .bin .sub .num (.t 67) (.c (.int .i64 1)), some (63, false), 0, []⟩,
    ⟨some 69, .call (.f 48) [(.t 64), (.t 66), (.t 68)], some (63, false), 0, []⟩,
    ⟨some 70, .bin .neq .num (.t 69) (.c (.int .i64 0)), some (63, false), 0, []⟩,
    ⟨some 71, .pick (.t 63) (.c (.bool true)) (.t 70), none, 0, []⟩,
    ⟨some 72, .mv (.t 71), none, 0, []⟩,
    ⟨some 73, .mv (.t 6), some (72, false), 0, []⟩,
    ⟨some 74, .mv (.t 4), some (72, false), 0, []⟩,
    ⟨some 75, .bin .sub .num (.t 74) (.c (.int .i64 1)), some (72, false), 0, []⟩,
    ⟨some 76, .mv (.t 5), some (72, false), 0, []⟩,
    ⟨some 77, .bin .sub .num (.t 76) (.c (.int .i64 1)), some (72, false), 0, []⟩,
    ⟨some 78, .call (.f 50) [(.t 73), (.t 75), (.t 77), (.c (.int .i64 1))], some (72, false), 0, []⟩,
    ⟨some 79, .bin .neq .num (.t 78) (.c (.int .i64 0)), some (72, false), 0, []⟩,
    ⟨some 80, .pick (.t 72) (.c (.bool true)) (.t 79), none, 0, []⟩,
    ⟨some 81, .mv (.t 80), none, 0, []⟩,
    ⟨some 82, .mv (.t 6), some (81, false), 0, []⟩,
    ⟨some 83, .mv (.t 4), some (81, false), 0, []⟩,
    ⟨some 84, .mv (.t 5), some (81, false), 0, []⟩,
    ⟨some 85, .bin .sub .num (.t 84) (.c (.int .i64 1)), some (81, false), 0, []⟩,
    ⟨some 86, .call (.f 50) [(.t 82), (.t 83), (.t 85), (.c (.int .i64 1))], some (81, false), 0, []⟩,
    ⟨some 87, .bin .neq .num (.t 86) (.c (.int .i64 22)), some (81, false), 0, []⟩,
    ⟨some 88, .pick (.t 81) (.c (.bool true)) (.t 87), none, 0, []⟩,
    ⟨some 89, .mv (.t 88), none, 0, []⟩,
    ⟨some 90, .mv (.t 6), some (89, false), 0, []⟩,
    ⟨some 91, .mv (.t 4), some (89, false), 0, []⟩,
    ⟨some 92, .bin .sub .num (.t 91) (.c (.int .i64 1)), some (89, false), 0, []⟩,
    ⟨some 93, .mv (.t 5), some (89, false), 0, []⟩,
    ⟨some 94, .call (.f 50) [(.t 90), (.t 92), (.t 93), (.c (.int .i64 0))], some (89, false), 0, []⟩,
    ⟨some 95, .bin .neq .num (.t 94) (.c (.int .i64 22)), some (89, false), 0, []⟩,
    ⟨some 96, .pick (.t 89) (.c (.bool true)) (.t 95), none, 0, []⟩,
    ⟨some 97, .mv (.t 96), none, 0, []⟩,
    ⟨some 98, .mv (.t 6), some (97, false), 0, []⟩,
    ⟨some 99, .call (.f 52) [(.t 98)], some (97, false), 0, []⟩,
    ⟨some 100, .bin .neq .num (.t 99) (.c (.int .i64 1)), some (97, false), 0, []⟩,
    ⟨some 101, .pick (.t 97) (.c (.bool true)) (.t 100), none, 0, []⟩,
    ⟨some 102, .mv (.t 101), none, 0, []⟩,
    ⟨some 103, .mv (.t 6), some (102, false), 0, []⟩,
    ⟨some 104, .mv (.t 4), some (102, false), 0, []⟩,
    ⟨some 105, .bin .sub .num (.t 104) (.c (.int .i64 1)), some (102, false), 0, []⟩,
    ⟨some 106, .mv (.t 5), some (102, false), 0, []⟩,
    ⟨some 107, .bin .sub .num (.t 106) (.c (.int .i64 1)), some (102, false), 0, []⟩,
    ⟨some 108, .call (.f 48) [(.t 103), (.t 105), (.t 107)], some (102, false), 0, []⟩,
    ⟨some 109, .bin .neq .num (.t 108) (.c (.int .i64 1)), some (102, false), 0, []⟩,
    ⟨some 110, .pick (.t 102) (.c (.bool true)) (.t 109), none, 0, []⟩,
    ⟨some 111, .mv (.t 110), none, 0, []⟩,
    ⟨some 112, .mv (.t 6), some (111, false), 0, []⟩,
    ⟨some 113, .call (.f 48) [(.t 112), (.c (.int .i64 (-1))), (.c (.int .i64 0))], some (111, false), 0, []⟩,
    ⟨some 114, .bin .neq .num (.t 113) (.c (.int .i64 0)), some (111, false), 0, []⟩,
    ⟨some 115, .pick (.t 111) (.c (.bool true)) (.t 114), none, 0, []⟩])
  (.cond (.t 115) (.seq (.reg false [2] [⟨some 2, .mv (.c (.bool false)), none, 0, []⟩])
  (.ret))
  (.skip))))))))
  (.reg false [1, 3] [⟨some 24, .mv (.t 3), none, 0, []⟩,
    ⟨some 25, .bin .add .num (.t 24) (.c (.int .i64 1)), none, 0, []⟩,
    ⟨some 3, .mv (.t 25), none, 0, []⟩]))
/-- burin/burinlaw2.BitmapSizes -/
def burinlaw2_BitmapSizes : AFun := ⟨1, 117, true, [.t 2],
  .seq (.reg false [1] [⟨some 1, .box 2 (.t 0), none, 0, []⟩,
    ⟨some 2, .mv (.c (.bool false)), none, 0, []⟩])
  (.seq (.seq (.reg false [1, 3] [⟨some 3, .mv (.c (.int .i64 0)), none, 0, []⟩])
  (.block 0 (.loop [1, 3] burinlaw2_BitmapSizes_l0)))
  (.seq (.reg false [2] [⟨some 116, .call (.f 99) [], none, 0, []⟩,
    ⟨some 2, .mv (.t 116), none, 0, []⟩])
  (.ret)))⟩

def burinlaw2_BitmapBlits_l1 : Cd := .seq (.seq (.reg false [1, 3, 7, 8, 9, 10, 11, 12, 13, 14, 15, 122] [⟨some 118, .mv (.t 15), none, 0, []⟩,
    ⟨some 119, .fad 0 (.t 1), none, 0, []⟩,
    ⟨some 120, .fad 0 (.t 119), none, 0, []⟩,
    ⟨some 121, .load none (.t 120), none, 0, []⟩,
    ⟨some 122, .bin .lss .num (.t 118) (.t 121), none, 0, []⟩])
  (.cond (.t 122) (.skip)
  (.exit 2)))
  (.seq (.block 3 (.seq (.reg false [1, 3, 7, 8, 9, 10, 11, 12, 13, 14, 15, 16] [⟨some 125, .mv (.t 15), none, 0, []⟩,
    ⟨some 126, .mv (.t 9), none, 0, []⟩,
    ⟨some 127, .bin .sub .num (.t 125) (.t 126), none, 0, []⟩,
    ⟨some 16, .mv (.t 127), none, 0, []⟩])
  (.seq (.reg false [1, 3, 7, 8, 9, 10, 11, 12, 13, 14, 15, 16, 17] [⟨some 128, .mv (.t 14), none, 0, []⟩,
    ⟨some 129, .mv (.t 10), none, 0, []⟩,
    ⟨some 130, .bin .sub .num (.t 128) (.t 129), none, 0, []⟩,
    ⟨some 17, .mv (.t 130), none, 0, []⟩])
  (.seq (.reg false [1, 3, 7, 8, 9, 10, 11, 12, 13, 14, 15, 16, 17, 18] [⟨some 131, .fad 0 (.t 1), none, 0, []⟩,
    ⟨some 132, .load (some 3) (.t 131), none, 0, []⟩,
    ⟨some 133, .mv (.t 15), none, 0, []⟩,
    ⟨some 134, .mv (.t 14), none, 0, []⟩,
    ⟨some 135, .call (.f 78) [(.t 132), (.t 133), (.t 134)], none, 0, []⟩,
    ⟨some 18, .mv (.t 135), none, 0, []⟩])
  (.seq (.seq (.reg false [1, 3, 7, 8, 9, 10, 11, 12, 13, 14, 15, 16, 17, 18, 181] [⟨some 136, .mv (.t 16), none, 0, []⟩,
    ⟨some 137, .bin .geq .num (.t 136) (.c (.int .i64 0)), none, 0, []⟩,
    ⟨some 138, .mv (.t 137), none, 0, []⟩,
    ⟨some 139, .mv (.t 16), some (138, true), 0, []⟩,
    ⟨some 140, .mv (.t 11), some (138, true), 0, []⟩,
    ⟨some 141, .bin .lss .num (.t 139) (.t 140), some (138, true), 0, []⟩,
    ⟨some 142, .pick (.t 138) (.t 141) (.c (.bool false)), none, 0, []⟩,
    ⟨some 143, .mv (.t 142), none, 0, []⟩,
    ⟨some 144, .mv (.t 17), some (143, true), 0, []⟩,
    ⟨some 145, .bin .geq .num (.t 144) (.c (.int .i64 0)), some (143, true), 0, []⟩,
    ⟨some 146, .pick (.t 143) (.t 145) (.c (.bool false)), none, 0, []⟩,
    ⟨some 147, .mv (.t 146), none, 0, []⟩,
    ⟨some 148, .mv (.t 17), some (147, true), 0, []⟩,
    ⟨some 149, .mv (.t 12), some (147, true), 0, []⟩,
    ⟨some 150, .bin .lss .num (.t 148) (.t 149), some (147, true), 0, []⟩,
    ⟨some 151, .pick (.t 147) (.t 150) (.c (.bool false)), none, 0, []⟩,
    ⟨some 152, .mv (.t 151), none, 0, []⟩,
    ⟨some 153, .mv (.t 7), some (152, true), 0, []⟩,
    ⟨some 154, .mv (.t 16), some (152, true), 0, []⟩,
    ⟨some 155, .bin .add .num (.t 153) (.t 154), some (152, true), 0, []⟩,
    ⟨some 156, .bin .geq .num (.t 155) (.c (.int .i64 0)), some (152, true), 0, []⟩,
    ⟨some 157, .pick (.t 152) (.t 156) (.c (.bool false)), none, 0, []⟩,
    ⟨some 158, .mv (.t 157), none, 0, []⟩,
    ⟨some 159, .mv (.t 7), some (158, true), 0, []⟩,
    ⟨some 160, .mv (.t 16), some (158, true), 0, []⟩,
    ⟨some 161, .bin .add .num (.t 159) (.t 160), some (158, true), 0, []⟩,
    ⟨some 162, .fad 3 (.t 1), some (158, true), 0, []⟩,
    ⟨some 163, .fad 0 (.t 162), some (158, true), 0, []⟩,
    ⟨some 164, .load none (.t 163), some (158, true), 0, []⟩,
    ⟨some 165, .bin .lss .num (.t 161) (.t 164), some (158, true), 0, []⟩,
    ⟨some 166, .pick (.t 158) (.t 165) (.c (.bool false)), none, 0, []⟩,
    ⟨some 167, .mv (.t 166), none, 0, []⟩,
    ⟨some 168, .mv (.t 8), some (167, true), 0, []⟩,
    ⟨some 169, .mv (.t 17), some (167, true), 0, []⟩,
    ⟨some 170, .bin .add .num (.t 168) (.t 169), some (167, true), 0, []⟩,
    ⟨some 171, .bin .geq .num (.t 170) (.c (.int .i64 0)), some (167, true), 0, []⟩,
    ⟨some 172, .pick (.t 167) (.t 171) (.c (.bool false)), none, 0, []⟩,
    ⟨some 173, .mv (.t 172), none, 0, []⟩,
    ⟨some 174, .mv (.t 8), some (173, true), 0, []⟩,
    ⟨some 175, .mv (.t 17), some (173, true), 0, []⟩,
    ⟨some 176, .bin .add .num (.t 174) (.t 175), some (173, true), 0, []⟩,
    ⟨some 177, .fad 3 (.t 1), some (173, true), 0, []⟩,
    ⟨some 178, .fad 1 (.t 177), some (173, true), 0, []⟩,
    ⟨some 179, .load none (.t 178), some (173, true), 0, []⟩,
    ⟨some 180, .bin .lss .num (.t 176) (.t 179), some (173, true), 0, []⟩,
    ⟨some 181, .pick (.t 173) (.t 180) (.c (.bool false)), none, 0, []⟩])
  (.cond (.t 181) (.reg false [1, 3, 7, 8, 9, 10, 11, 12, 13, 14, 15, 18] [⟨some 182, .mv (.t 13), none, 0, []⟩,
    ⟨some 183, .mv (.t 18), none, 0, []⟩,
    ⟨some 184, .fad 3 (.t 1), none, 0, []⟩,
    ⟨some 185, .load (some 3) (.t 184), none, 0, []⟩,
    ⟨some 186, .mv (.t 7), none, 0, []⟩,
    ⟨some 187, .mv (.t 16), none, 0, []⟩,
    ⟨some 188, .bin .add .num (.t 186) (.t 187), none, 0, []⟩,
    ⟨some 189, .mv (.t 8), none, 0, []⟩,
    ⟨some 190, .mv (.t 17), none, 0, []⟩,
    ⟨some 191, .bin .add .num (.t 189) (.t 190), none, 0, []⟩,
    ⟨some 192, .call (.f 78) [(.t 185), (.t 188), (.t 191)], none, 0, []⟩,
    ⟨some 193, .call (.f 80) [(.t 182), (.t 183), (.t 192)], none, 0, []⟩,
    ⟨some 18, .mv (.t 193), none, 0, []⟩])
  (.skip)))
  (.seq (.reg false [1, 3, 7, 8, 9, 10, 11, 12, 13, 14, 15, 199] [⟨some 194, .mv (.t 3), none, 0, []⟩,
    ⟨some 195, .mv (.t 15), none, 0, []⟩,
    ⟨some 196, .mv (.t 14), none, 0, []⟩,
    ⟨some 197, .call (.f 48) [(.t 194), (.t 195), (.t 196)], none, 0, []⟩,
    ⟨some 198, .mv (.t 18), none, 0, []⟩,
    ⟨some 199, .bin .neq .num (.t 197) (.t 198), none, 0, []⟩])
  (.cond (.t 199) (.seq (.reg false [2] [⟨some 2, .mv (.c (.bool false)), none, 0, []⟩])
  (.ret))
  (.skip))))))))
  (.reg false [1, 3, 7, 8, 9, 10, 11, 12, 13, 14, 15] [⟨some 123, .mv (.t 15), none, 0, []⟩,
    ⟨some 124, .bin .add .num (.t 123) (.c (.int .i64 1)), none, 0, []⟩,
    ⟨some 15, .mv (.t 124), none, 0, []⟩]))
def burinlaw2_BitmapBlits_l0 : Cd := .seq (.seq (.reg false [1, 3, 7, 8, 9, 10, 11, 12, 13, 14, 115] [⟨some 111, .mv (.t 14), none, 0, []⟩,
    ⟨some 112, .fad 0 (.t 1), none, 0, []⟩,
    ⟨some 113, .fad 1 (.t 112), none, 0, []⟩,
    ⟨some 114, .load none (.t 113), none, 0, []⟩,
    ⟨some 115, .bin .lss .num (.t 111) (.t 114), none, 0, []⟩])
  (.cond (.t 115) (.skip)
  (.exit 0)))
  (.seq (.block 1 (.seq (.reg false [1, 3, 7, 8, 9, 10, 11, 12, 13, 14, 15] [⟨some 15, .mv (.c (.int .i64 0)), none, 0, []⟩])
  (.block 2 (.loop [1, 3, 7, 8, 9, 10, 11, 12, 13, 14, 15] burinlaw2_BitmapBlits_l1))))
  (.reg false [1, 3, 7, 8, 9, 10, 11, 12, 13, 14] [⟨some 116, .mv (.t 14), none, 0, []⟩,
    ⟨some 117, .bin .add .num (.t 116) (.c (.int .i64 1)), none, 0, []⟩,
    ⟨some 14, .mv (.t 117), none, 0, []⟩]))
/-- burin/burinlaw2.BitmapBlits -/
def burinlaw2_BitmapBlits : AFun := ⟨1, 201, true, [.t 2],
  .seq (.reg false [1] [⟨some 1, .box 14 (.t 0), none, 0, []⟩,
    ⟨some 2, .mv (.c (.bool false)), none, 0, []⟩])
  (.seq (.seq (.reg false [1, 37] [⟨some 19, .fad 0 (.t 1), none, 0, []⟩,
    ⟨some 20, .load (some 3) (.t 19), none, 0, []⟩,
    ⟨some 21, .call (.f 76) [(.t 20)], none, 0, []⟩,
    ⟨some 22, .un .not (.t 21), none, 0, []⟩,
    ⟨some 23, .mv (.t 22), none, 0, []⟩,
    ⟨some 24, .fad 3 (.t 1), some (23, false), 0, []⟩,
    ⟨some 25, .load (some 3) (.t 24), some (23, false), 0, []⟩,
    ⟨some 26, .call (.f 76) [(.t 25)], some (23, false), 0, []⟩,
    ⟨some 27, .un .not (.t 26), some (23, false), 0, []⟩,
    ⟨some 28, .pick (.t 23) (.c (.bool true)) (.t 27), none, 0, []⟩,
    ⟨some 29, .mv (.t 28), none, 0, []⟩,
    ⟨some 30, .fad 0 (.t 1), some (29, false), 0, []⟩,
    ⟨some 31, .load (some 3) (.t 30), some (29, false), 0, []⟩,
    ⟨some 32, .fad 3 (.t 1), some (29, false), 0, []⟩,
    ⟨some 33, .load (some 3) (.t 32), some (29, false), 0, []⟩,
    ⟨some 34, .bslice 3 [.int .i64 0, .int .i64 0, .sl none 0 0 0] 2 [(0, (.t 31)), (1, (.t 33))], some (29, false), 0, []⟩,
    ⟨some 35, .call (.f 98) [(.t 34), (.c (.int .i64 60000))], some (29, false), 0, []⟩,
    ⟨some 36, .un .not (.t 35), some (29, false), 0, []⟩,
    ⟨some 37, .pick (.t 29) (.c (.bool true)) (.t 36), none, 0, []⟩])
  (.cond (.t 37) (.seq (.reg false [2] [⟨some 38, .call (.f 99) [], none, 0, []⟩,
    ⟨some 2, .mv (.t 38), none, 0, []⟩])
  (.ret))
  (.skip)))
  (.seq (.reg false [1, 3, 4] [⟨some 40, .fad 0 (.t 1), none, 0, []⟩,
    ⟨some 41, .load (some 3) (.t 40), none, 0, []⟩,
    ⟨some 42, .call (.f 44) [(.t 41)], none, 0, []⟩,
    ⟨some 39, .mv (.t 42), none, 0, []⟩,
    ⟨some 43, .ext 0 (.t 39), none, 0, []⟩,
    ⟨some 44, .ext 1 (.t 39), none, 0, []⟩,
    ⟨some 3, .mv (.t 43), none, 0, []⟩,
    ⟨some 4, .mv (.t 44), none, 0, []⟩])
  (.seq (.reg false [1, 3, 4, 5, 6] [⟨some 46, .fad 3 (.t 1), none, 0, []⟩,
    ⟨some 47, .load (some 3) (.t 46), none, 0, []⟩,
    ⟨some 48, .call (.f 44) [(.t 47)], none, 0, []⟩,
    ⟨some 45, .mv (.t 48), none, 0, []⟩,
    ⟨some 49, .ext 0 (.t 45), none, 0, []⟩,
    ⟨some 50, .ext 1 (.t 45), none, 0, []⟩,
    ⟨some 5, .mv (.t 49), none, 0, []⟩,
    ⟨some 6, .mv (.t 50), none, 0, []⟩])
  (.seq (.seq (.reg false [1, 3, 5, 64] [⟨some 51, .mv (.t 4), none, 0, []⟩,
    ⟨some 52, .bin .neq .num (.t 51) (.c (.int .i64 0)), none, 0, []⟩,
    ⟨some 53, .mv (.t 52), none, 0, []⟩,
    ⟨some 54, .mv (.t 6), some (53, false), 0, []⟩,
    ⟨some 55, .bin .neq .num (.t 54) (.c (.int .i64 0)), some (53, false), 0, []⟩,
    ⟨some 56, .pick (.t 53) (.c (.bool true)) (.t 55), none, 0, []⟩,
    ⟨some 57, .mv (.t 56), none, 0, []⟩,
    ⟨some 58, .mv (.t 3), some (57, false), 0, []⟩,
    ⟨some 59, .bin .eql .ptr (.t 58) (.c (.ptr none)), some (57, false), 0, []⟩,
    ⟨some 60, .pick (.t 57) (.c (.bool true)) (.t 59), none, 0, []⟩,
    ⟨some 61, .mv (.t 60), none, 0, []⟩,
    ⟨some 62, .mv (.t 5), some (61, false), 0, []⟩,
    ⟨some 63, .bin .eql .ptr (.t 62) (.c (.ptr none)), some (61, false), 0, []⟩,
    ⟨some 64, .pick (.t 61) (.c (.bool true)) (.t 63), none, 0, []⟩])
  (.cond (.t 64) (.seq (.reg false [2] [⟨some 2, .mv (.c (.bool false)), none, 0, []⟩])
  (.ret))
  (.skip)))
  (.seq (.reg true [1, 3, 5, 7, 8, 9, 10] [⟨some 65, .fad 6 (.t 1), none, 0, []⟩,
    ⟨some 66, .iad (some 8) 1 (.t 65) (.c (.int .i64 0)), none, 1, []⟩,
    ⟨some 67, .load none (.t 66), none, 2, []⟩,
    ⟨some 68, .bin .rem .num (.t 67) (.c (.int .i64 200)), none, 3, []⟩,
    ⟨some 69, .fad 6 (.t 1), none, 4, []⟩,
    ⟨some 70, .iad (some 8) 1 (.t 69) (.c (.int .i64 1)), none, 5, []⟩,
    ⟨some 71, .load none (.t 70), none, 6, []⟩,
    ⟨some 72, .bin .rem .num (.t 71) (.c (.int .i64 200)), none, 7, []⟩,
    ⟨some 73, .fad 6 (.t 1), none, 8, []⟩,
    ⟨some 74, .iad (some 8) 1 (.t 73) (.c (.int .i64 2)), none, 9, []⟩,
    ⟨some 75, .load none (.t 74), none, 10, []⟩,
    ⟨some 76, .bin .rem .num (.t 75) (.c (.int .i64 200)), none, 11, []⟩,
    ⟨some 77, .fad 6 (.t 1), none, 12, []⟩,
    ⟨some 78, .iad (some 8) 1 (.t 77) (.c (.int .i64 3)), none, 13, []⟩,
    ⟨some 79, .load none (.t 78), none, 14, []⟩,
    ⟨some 80, .bin .rem .num (.t 79) (.c (.int .i64 200)), none, 15, []⟩,
    ⟨some 7, .mv (.t 68), none, 16, []⟩,
    ⟨some 8, .mv (.t 72), none, 17, []⟩,
    ⟨some 9, .mv (.t 76), none, 18, []⟩,
    ⟨some 10, .mv (.t 80), none, 19, []⟩])
  (.seq (.reg false [1, 3, 5, 7, 8, 9, 10, 11] [⟨some 81, .fad 6 (.t 1), none, 0, []⟩,
    ⟨some 82, .iad (some 8) 1 (.t 81) (.c (.int .i64 4)), none, 0, []⟩,
    ⟨some 83, .load none (.t 82), none, 0, []⟩,
    ⟨some 84, .call (.f 29) [(.t 83), (.c (.int .i64 300))], none, 0, []⟩,
    ⟨some 11, .mv (.t 84), none, 0, []⟩])
  (.seq (.reg false [1, 3, 5, 7, 8, 9, 10, 11, 12] [⟨some 85, .fad 6 (.t 1), none, 0, []⟩,
    ⟨some 86, .iad (some 8) 1 (.t 85) (.c (.int .i64 5)), none, 0, []⟩,
    ⟨some 87, .load none (.t 86), none, 0, []⟩,
    ⟨some 88, .call (.f 29) [(.t 87), (.c (.int .i64 300))], none, 0, []⟩,
    ⟨some 12, .mv (.t 88), none, 0, []⟩])
  (.seq (.reg false [1, 3, 5, 7, 8, 9, 10, 11, 12, 13] [⟨some 89, .fad 6 (.t 1), none, 0, []⟩,
    ⟨some 90, .iad (some 8) 1 (.t 89) (.c (.int .i64 6)), none, 0, []⟩,
    ⟨some 91, .load none (.t 90), none, 0, []⟩,
    ⟨some 92, .call (.f 29) [(.t 91), (.c (.int .i64 5))], none, 0, []⟩,
    ⟨some 13, .mv (.t 92), none, 0, []⟩])
  (.seq (.seq (.reg false [1, 3, 7, 8, 9, 10, 11, 12, 13, 110] [⟨some 93, .mv (.t 3), none, 0, []⟩,
    ⟨some 94, .mv (.t 5), none, 0, []⟩,
    ⟨some 95, .mv (.t 7), none, 0, []⟩,
    ⟨some 96, .mv (.t 8), none, 0, []⟩,
    ⟨some 97, .mv (.t 11), none, 0, []⟩,
    ⟨some 98, .mv (.t 12), none, 0, []⟩,
    ⟨some 99, .mv (.t 9), none, 0, []⟩,
    ⟨some 100, .mv (.t 10), none, 0, []⟩,
    ⟨some 101, .mv (.t 13), none, 0, []⟩,
    ⟨some 102, .call (.f 64) [(.t 93), (.t 94), (.t 95), (.t 96), (.t 97), (.t 98), (.t 99), (.t 100), (.t 101)], none, 0, []⟩,
    ⟨some 103, .bin .neq .num (.t 102) (.c (.int .i64 0)), none, 0, []⟩,
    ⟨some 104, .mv (.t 103), none, 0, []⟩,
    ⟨some 105, .mv (.t 5), some (104, false), 0, []⟩,
    ⟨some 106, .fad 3 (.t 1), some (104, false), 0, []⟩,
    ⟨some 107, .load (some 3) (.t 106), some (104, false), 0, []⟩,
    ⟨some 108, .call (.f 101) [(.t 105), (.t 107)], some (104, false), 0, []⟩,
    ⟨some 109, .un .not (.t 108), some (104, false), 0, []⟩,
    ⟨some 110, .pick (.t 104) (.c (.bool true)) (.t 109), none, 0, []⟩])
  (.cond (.t 110) (.seq (.reg false [2] [⟨some 2, .mv (.c (.bool false)), none, 0, []⟩])
  (.ret))
  (.skip)))
  (.seq (.seq (.reg false [1, 3, 7, 8, 9, 10, 11, 12, 13, 14] [⟨some 14, .mv (.c (.int .i64 0)), none, 0, []⟩])
  (.block 0 (.loop [1, 3, 7, 8, 9, 10, 11, 12, 13, 14] burinlaw2_BitmapBlits_l0)))
  (.seq (.reg false [2] [⟨some 200, .call (.f 99) [], none, 0, []⟩,
    ⟨some 2, .mv (.t 200), none, 0, []⟩])
  (.ret))))))))))))⟩

/-- burin/burinlaw2.BitmapSelf -/
def burinlaw2_BitmapSelf : AFun := ⟨1, 113, true, [.t 2],
  .seq (.reg false [1] [⟨some 1, .box 14 (.t 0), none, 0, []⟩,
    ⟨some 2, .mv (.c (.bool false)), none, 0, []⟩])
  (.seq (.seq (.reg false [1, 20] [⟨some 10, .fad 0 (.t 1), none, 0, []⟩,
    ⟨some 11, .load (some 3) (.t 10), none, 0, []⟩,
    ⟨some 12, .call (.f 76) [(.t 11)], none, 0, []⟩,
    ⟨some 13, .un .not (.t 12), none, 0, []⟩,
    ⟨some 14, .mv (.t 13), none, 0, []⟩,
    ⟨some 15, .fad 0 (.t 1), some (14, false), 0, []⟩,
    ⟨some 16, .load (some 3) (.t 15), some (14, false), 0, []⟩,
    ⟨some 17, .bslice 3 [.int .i64 0, .int .i64 0, .sl none 0 0 0] 1 [(0, (.t 16))], some (14, false), 0, []⟩,
    ⟨some 18, .call (.f 98) [(.t 17), (.c (.int .i64 60000))], some (14, false), 0, []⟩,
    ⟨some 19, .un .not (.t 18), some (14, false), 0, []⟩,
    ⟨some 20, .pick (.t 14) (.c (.bool true)) (.t 19), none, 0, []⟩])
  (.cond (.t 20) (.seq (.reg false [2] [⟨some 21, .call (.f 99) [], none, 0, []⟩,
    ⟨some 2, .mv (.t 21), none, 0, []⟩])
  (.ret))
  (.skip)))
  (.seq (.reg false [1, 3, 4] [⟨some 23, .fad 0 (.t 1), none, 0, []⟩,
    ⟨some 24, .load (some 3) (.t 23), none, 0, []⟩,
    ⟨some 25, .call (.f 44) [(.t 24)], none, 0, []⟩,
    ⟨some 22, .mv (.t 25), none, 0, []⟩,
    ⟨some 26, .ext 0 (.t 22), none, 0, []⟩,
    ⟨some 27, .ext 1 (.t 22), none, 0, []⟩,
    ⟨some 3, .mv (.t 26), none, 0, []⟩,
    ⟨some 4, .mv (.t 27), none, 0, []⟩])
  (.seq (.reg false [1, 3, 4, 5, 6] [⟨some 29, .fad 0 (.t 1), none, 0, []⟩,
    ⟨some 30, .load (some 3) (.t 29), none, 0, []⟩,
    ⟨some 31, .call (.f 44) [(.t 30)], none, 0, []⟩,
    ⟨some 28, .mv (.t 31), none, 0, []⟩,
    ⟨some 32, .ext 0 (.t 28), none, 0, []⟩,
    ⟨some 33, .ext 1 (.t 28), none, 0, []⟩,
    ⟨some 5, .mv (.t 32), none, 0, []⟩,
    ⟨some 6, .mv (.t 33), none, 0, []⟩])
  (.seq (.reg false [1, 3, 4, 5, 6, 7, 8] [⟨some 35, .fad 0 (.t 1), none, 0, []⟩,
    ⟨some 36, .load (some 3) (.t 35), none, 0, []⟩,
    ⟨some 37, .call (.f 44) [(.t 36)], none, 0, []⟩,
    ⟨some 34, .mv (.t 37), none, 0, []⟩,
    ⟨some 38, .ext 0 (.t 34), none, 0, []⟩,
    ⟨some 39, .ext 1 (.t 34), none, 0, []⟩,
    ⟨some 7, .mv (.t 38), none, 0, []⟩,
    ⟨some 8, .mv (.t 39), none, 0, []⟩])
  (.seq (.seq (.reg false [1, 3, 5, 7, 61] [⟨some 40, .mv (.t 4), none, 0, []⟩,
    ⟨some 41, .bin .neq .num (.t 40) (.c (.int .i64 0)), none, 0, []⟩,
    ⟨some 42, .mv (.t 41), none, 0, []⟩,
    ⟨some 43, .mv (.t 6), some (42, false), 0, []⟩,
    ⟨some 44, .bin .neq .num (.t 43) (.c (.int .i64 0)), some (42, false), 0, []⟩,
    ⟨some 45, .pick (.t 42) (.c (.bool true)) (.t 44), none, 0, []⟩,
    ⟨some 46, .mv (.t 45), none, 0, []⟩,
    ⟨some 47, .mv (.t 8), some (46, false), 0, []⟩,
    ⟨some 48, .bin .neq .num (.t 47) (.c (.int .i64 0)), some (46, false), 0, []⟩,
    ⟨some 49, .pick (.t 46) (.c (.bool true)) (.t 48), none, 0, []⟩,
    ⟨some 50, .mv (.t 49), none, 0, []⟩,
    ⟨some 51, .mv (.t 3), some (50, false), 0, []⟩,
    ⟨some 52, .bin .eql .ptr (.t 51) (.c (.ptr none)), some (50, false), 0, []⟩,
    ⟨some 53, .pick (.t 50) (.c (.bool true)) (.t 52), none, 0, []⟩,
    ⟨some 54, .mv (.t 53), none, 0, []⟩,
    ⟨some 55, .mv (.t 5), some (54, false), 0, []⟩,
    ⟨some 56, .bin .eql .ptr (.t 55) (.c (.ptr none)), some (54, false), 0, []⟩,
    ⟨some 57, .pick (.t 54) (.c (.bool true)) (.t 56), none, 0, []⟩,
    ⟨some 58, .mv (.t 57), none, 0, []⟩,
    ⟨some 59, .mv (.t 7), some (58, false), 0, []⟩,
    ⟨some 60, .bin .eql .ptr (.t 59) (.c (.ptr none)), some (58, false), 0, []⟩,
    ⟨some 61, .pick (.t 58) (.c (.bool true)) (.t 60), none, 0, []⟩])
  (.cond (.t 61) (.seq (.reg false [2] [⟨some 2, .mv (.c (.bool false)), none, 0, []⟩])
  (.ret))
  (.skip)))
  (.seq (.reg false [1, 3, 5, 7, 9] [⟨some 62, .fad 6 (.t 1), none, 0, []⟩,
    ⟨some 63, .load (some 8) (.t 62), none, 0, []⟩,
    ⟨some 9, .alloc [.int .i64 0, .int .i64 0, .int .i64 0, .int .i64 0, .int .i64 0, .int .i64 0, .int .i64 0, .int .i64 0], none, 0, []⟩,
    ⟨none, .store 8 (.t 9) (.t 63), none, 0, []⟩])
  (.seq (.seq (.reg true [1, 3, 5, 7, 98] [⟨some 64, .mv (.t 3), none, 0, []⟩,
    ⟨some 65, .mv (.t 3), none, 1, []⟩,
    ⟨some 66, .iad (some 8) 1 (.t 9) (.c (.int .i64 0)), none, 2, []⟩,
    ⟨some 67, .load none (.t 66), none, 3, []⟩,
    ⟨some 68, .iad (some 8) 1 (.t 9) (.c (.int .i64 1)), none, 4, []⟩,
    ⟨some 69, .load none (.t 68), none, 5, []⟩,
    ⟨some 70, .iad (some 8) 1 (.t 9) (.c (.int .i64 2)), none, 6, []⟩,
    ⟨some 71, .load none (.t 70), none, 7, []⟩,
    ⟨some 72, .iad (some 8) 1 (.t 9) (.c (.int .i64 3)), none, 8, []⟩,
    ⟨some 73, .load none (.t 72), none, 9, []⟩,
    ⟨some 74, .iad (some 8) 1 (.t 9) (.c (.int .i64 4)), none, 10, []⟩,
    ⟨some 75, .load none (.t 74), none, 11, []⟩,
    ⟨some 76, .iad (some 8) 1 (.t 9) (.c (.int .i64 5)), none, 12, []⟩,
    ⟨some 77, .load none (.t 76), none, 13, []⟩,
    ⟨some 78, .iad (some 8) 1 (.t 9) (.c (.int .i64 6)), none, 14, []⟩,
    ⟨some 79, .load none (.t 78), none, 15, []⟩,
    ⟨some 81, .mv (.t 5), none, 17, []⟩,
    ⟨some 82, .mv (.t 7), none, 18, []⟩,
    ⟨some 83, .iad (some 8) 1 (.t 9) (.c (.int .i64 0)), none, 19, []⟩,
    ⟨some 84, .load none (.t 83), none, 20, []⟩,
    ⟨some 85, .iad (some 8) 1 (.t 9) (.c (.int .i64 1)), none, 21, []⟩,
    ⟨some 86, .load none (.t 85), none, 22, []⟩,
    ⟨some 87, .iad (some 8) 1 (.t 9) (.c (.int .i64 2)), none, 23, []⟩,
    ⟨some 88, .load none (.t 87), none, 24, []⟩,
    ⟨some 89, .iad (some 8) 1 (.t 9) (.c (.int .i64 3)), none, 25, []⟩,
    ⟨some 90, .load none (.t 89), none, 26, []⟩,
    ⟨some 91, .iad (some 8) 1 (.t 9) (.c (.int .i64 4)), none, 27, []⟩,
    ⟨some 92, .load none (.t 91), none, 28, []⟩,
    ⟨some 93, .iad (some 8) 1 (.t 9) (.c (.int .i64 5)), none, 29, []⟩,
    ⟨some 94, .load none (.t 93), none, 30, []⟩,
    ⟨some 95, .iad (some 8) 1 (.t 9) (.c (.int .i64 6)), none, 31, []⟩,
    ⟨some 96, .load none (.t 95), none, 32, []⟩,
    ⟨some 80, .call (.f 64) [(.t 64), (.t 65), (.t 67), (.t 69), (.t 71), (.t 73), (.t 75), (.t 77), (.t 79)], none, 16, [20, 22, 24, 26, 28, 30, 32]⟩,
    ⟨some 97, .call (.f 64) [(.t 81), (.t 82), (.t 84), (.t 86), (.t 88), (.t 90), (.t 92), (.t 94), (.t 96)], none, 33, []⟩,
    ⟨some 98, .bin .neq .num (.t 80) (.t 97), none, 34, []⟩])
  (.cond (.t 98) (.seq (.reg false [2] [⟨some 2, .mv (.c (.bool false)), none, 0, []⟩])
  (.ret))
  (.skip)))
  (.seq (.reg false [2] [⟨some 99, .mv (.t 3), none, 0, []⟩,
    ⟨some 100, .call (.f 45) [(.t 99)], none, 0, []⟩,
    ⟨some 101, .mv (.t 5), none, 0, []⟩,
    ⟨some 102, .call (.f 45) [(.t 101)], none, 0, []⟩,
    ⟨some 103, .call (.f 84) [(.t 100), (.t 102)], none, 0, []⟩,
    ⟨some 104, .mv (.t 103), none, 0, []⟩,
    ⟨some 105, .mv (.t 7), some (104, true), 0, []⟩,
    ⟨some 106, .fad 0 (.t 1), some (104, true), 0, []⟩,
    ⟨some 107, .load (some 3) (.t 106), some (104, true), 0, []⟩,
    ⟨some 108, .call (.f 101) [(.t 105), (.t 107)], some (104, true), 0, []⟩,
    ⟨some 109, .pick (.t 104) (.t 108) (.c (.bool false)), none, 0, []⟩,
    ⟨some 110, .mv (.t 109), none, 0, []⟩,
    ⟨some 111, .call (.f 99) [], some (110, true), 0, []⟩,
    ⟨some 112, .pick (.t 110) (.t 111) (.c (.bool false)), none, 0, []⟩,
    ⟨some 2, .mv (.t 112), none, 0, []⟩])
  (.ret)))))))))⟩

def burinlaw2_BitmapTurns_l1 : Cd := .seq (.seq (.reg false [1, 3, 5, 8, 9, 10, 128] [⟨some 125, .mv (.t 10), none, 0, []⟩,
    ⟨some 126, .fad 0 (.t 1), none, 0, []⟩,
    ⟨some 127, .load none (.t 126), none, 0, []⟩,
    ⟨some 128, .bin .lss .num (.t 125) (.t 127), none, 0, []⟩])
  (.cond (.t 128) (.skip)
  (.exit 2)))
  (.seq (.block 3 (.seq (.reg true [1, 3, 5, 8, 9, 10, 143] [⟨some 131, .mv (.t 5), none, 0, []⟩,
    ⟨some 132, .fad 1 (.t 1), none, 1, []⟩,
    ⟨some 133, .load none (.t 132), none, 2, []⟩,
    ⟨some 134, .bin .sub .num (.t 133) (.c (.int .i64 1)), none, 3, []⟩,
    ⟨some 135, .mv (.t 9), none, 4, []⟩,
    ⟨some 136, .bin .sub .num (.t 134) (.t 135), none, 5, []⟩,
    ⟨some 137, .mv (.t 10), none, 6, []⟩,
    ⟨some 139, .load (some 3) (.t 1), none, 8, []⟩,
    ⟨some 140, .mv (.t 10), none, 9, []⟩,
    ⟨some 141, .mv (.t 9), none, 10, []⟩,
    ⟨some 138, .call (.f 48) [(.t 131), (.t 136), (.t 137)], none, 7, [8]⟩,
    ⟨some 142, .call (.f 78) [(.t 139), (.t 140), (.t 141)], none, 11, []⟩,
    ⟨some 143, .bin .neq .num (.t 138) (.t 142), none, 12, []⟩])
  (.cond (.t 143) (.seq (.reg false [2] [⟨some 2, .mv (.c (.bool false)), none, 0, []⟩])
  (.ret))
  (.skip))))
  (.reg false [1, 3, 5, 8, 9, 10] [⟨some 129, .mv (.t 10), none, 0, []⟩,
    ⟨some 130, .bin .add .num (.t 129) (.c (.int .i64 1)), none, 0, []⟩,
    ⟨some 10, .mv (.t 130), none, 0, []⟩]))
def burinlaw2_BitmapTurns_l0 : Cd := .seq (.seq (.reg false [1, 3, 5, 8, 9, 122] [⟨some 119, .mv (.t 9), none, 0, []⟩,
    ⟨some 120, .fad 1 (.t 1), none, 0, []⟩,
    ⟨some 121, .load none (.t 120), none, 0, []⟩,
    ⟨some 122, .bin .lss .num (.t 119) (.t 121), none, 0, []⟩])
  (.cond (.t 122) (.skip)
  (.exit 0)))
  (.seq (.block 1 (.seq (.reg false [1, 3, 5, 8, 9, 10] [⟨some 10, .mv (.c (.int .i64 0)), none, 0, []⟩])
  (.block 2 (.loop [1, 3, 5, 8, 9, 10] burinlaw2_BitmapTurns_l1))))
  (.reg false [1, 3, 5, 8, 9] [⟨some 123, .mv (.t 9), none, 0, []⟩,
    ⟨some 124, .bin .add .num (.t 123) (.c (.int .i64 1)), none, 0, []⟩,
    ⟨some 9, .mv (.t 124), none, 0, []⟩]))
/-- burin/burinlaw2.BitmapTurns -/
def burinlaw2_BitmapTurns : AFun := ⟨1, 170, true, [.t 2],
  .seq (.reg false [1] [⟨some 1, .box 3 (.t 0), none, 0, []⟩,
    ⟨some 2, .mv (.c (.bool false)), none, 0, []⟩])
  (.seq (.seq (.reg false [1, 19] [⟨some 11, .load (some 3) (.t 1), none, 0, []⟩,
    ⟨some 12, .call (.f 76) [(.t 11)], none, 0, []⟩,
    ⟨some 13, .un .not (.t 12), none, 0, []⟩,
    ⟨some 14, .mv (.t 13), none, 0, []⟩,
    ⟨some 15, .load (some 3) (.t 1), some (14, false), 0, []⟩,
    ⟨some 16, .bslice 3 [.int .i64 0, .int .i64 0, .sl none 0 0 0] 1 [(0, (.t 15))], some (14, false), 0, []⟩,
    ⟨some 17, .call (.f 98) [(.t 16), (.c (.int .i64 60000))], some (14, false), 0, []⟩,
    ⟨some 18, .un .not (.t 17), some (14, false), 0, []⟩,
    ⟨some 19, .pick (.t 14) (.c (.bool true)) (.t 18), none, 0, []⟩])
  (.cond (.t 19) (.seq (.reg false [2] [⟨some 20, .call (.f 99) [], none, 0, []⟩,
    ⟨some 2, .mv (.t 20), none, 0, []⟩])
  (.ret))
  (.skip)))
  (.seq (.reg false [1, 3, 4] [⟨some 22, .load (some 3) (.t 1), none, 0, []⟩,
    ⟨some 23, .call (.f 44) [(.t 22)], none, 0, []⟩,
    ⟨some 21, .mv (.t 23), none, 0, []⟩,
    ⟨some 24, .ext 0 (.t 21), none, 0, []⟩,
    ⟨some 25, .ext 1 (.t 21), none, 0, []⟩,
    ⟨some 3, .mv (.t 24), none, 0, []⟩,
    ⟨some 4, .mv (.t 25), none, 0, []⟩])
  (.seq (.seq (.reg false [1, 3, 41] [⟨some 26, .mv (.t 4), none, 0, []⟩,
    ⟨some 27, .bin .neq .num (.t 26) (.c (.int .i64 0)), none, 0, []⟩,
    ⟨some 28, .mv (.t 27), none, 0, []⟩,
    ⟨some 29, .mv (.t 3), some (28, false), 0, []⟩,
    ⟨some 30, .bin .eql .ptr (.t 29) (.c (.ptr none)), some (28, false), 0, []⟩,
    ⟨some 31, .pick (.t 28) (.c (.bool true)) (.t 30), none, 0, []⟩,
    ⟨some 32, .mv (.t 31), none, 0, []⟩,
    ⟨some 33, .mv (.t 3), some (32, false), 0, []⟩,
    ⟨some 34, .call (.f 69) [(.t 33)], some (32, false), 0, []⟩,
    ⟨some 35, .bin .eql .ptr (.t 34) (.c (.ptr none)), some (32, false), 0, []⟩,
    ⟨some 36, .pick (.t 32) (.c (.bool true)) (.t 35), none, 0, []⟩,
    ⟨some 37, .mv (.t 36), none, 0, []⟩,
    ⟨some 38, .mv (.t 3), some (37, false), 0, []⟩,
    ⟨some 39, .call (.f 71) [(.t 38)], some (37, false), 0, []⟩,
    ⟨some 40, .bin .eql .ptr (.t 39) (.c (.ptr none)), some (37, false), 0, []⟩,
    ⟨some 41, .pick (.t 37) (.c (.bool true)) (.t 40), none, 0, []⟩])
  (.cond (.t 41) (.seq (.reg false [2] [⟨some 2, .mv (.c (.bool false)), none, 0, []⟩])
  (.ret))
  (.skip)))
  (.seq (.reg false [1, 3, 5] [⟨some 42, .mv (.t 3), none, 0, []⟩,
    ⟨some 43, .call (.f 71) [(.t 42)], none, 0, []⟩,
    ⟨some 5, .mv (.t 43), none, 0, []⟩])
  (.seq (.reg false [1, 3, 5, 6] [⟨some 44, .mv (.t 5), none, 0, []⟩,
    ⟨some 45, .call (.f 71) [(.t 44)], none, 0, []⟩,
    ⟨some 6, .mv (.t 45), none, 0, []⟩])
  (.seq (.seq (.reg false [1, 3, 5, 6, 69] [⟨some 46, .mv (.t 6), none, 0, []⟩,
    ⟨some 47, .bin .eql .ptr (.t 46) (.c (.ptr none)), none, 0, []⟩,
    ⟨some 48, .mv (.t 47), none, 0, []⟩,
    ⟨some 49, .mv (.t 6), some (48, false), 0, []⟩,
    ⟨some 50, .call (.f 71) [(.t 49)], some (48, false), 0, []⟩,
    ⟨some 51, .bin .eql .ptr (.t 50) (.c (.ptr none)), some (48, false), 0, []⟩,
    ⟨some 52, .pick (.t 48) (.c (.bool true)) (.t 51), none, 0, []⟩,
    ⟨some 53, .mv (.t 52), none, 0, []⟩,
    ⟨some 54, .mv (.t 6), some (53, false), 0, []⟩,
    ⟨some 55, .call (.f 71) [(.t 54)], some (53, false), 0, []⟩,
    ⟨some 56, .call (.f 71) [(.t 55)], some (53, false), 0, []⟩,
    ⟨some 57, .bin .eql .ptr (.t 56) (.c (.ptr none)), some (53, false), 0, []⟩,
    ⟨some 58, .pick (.t 53) (.c (.bool true)) (.t 57), none, 0, []⟩,
    ⟨some 59, .mv (.t 58), none, 0, []⟩,
    ⟨some 60, .mv (.t 3), some (59, false), 0, []⟩,
    ⟨some 61, .call (.f 69) [(.t 60)], some (59, false), 0, []⟩,
    ⟨some 62, .call (.f 69) [(.t 61)], some (59, false), 0, []⟩,
    ⟨some 63, .bin .eql .ptr (.t 62) (.c (.ptr none)), some (59, false), 0, []⟩,
    ⟨some 64, .pick (.t 59) (.c (.bool true)) (.t 63), none, 0, []⟩,
    ⟨some 65, .mv (.t 64), none, 0, []⟩,
    ⟨some 66, .mv (.t 5), some (65, false), 0, []⟩,
    ⟨some 67, .call (.f 69) [(.t 66)], some (65, false), 0, []⟩,
    ⟨some 68, .bin .eql .ptr (.t 67) (.c (.ptr none)), some (65, false), 0, []⟩,
    ⟨some 69, .pick (.t 65) (.c (.bool true)) (.t 68), none, 0, []⟩])
  (.cond (.t 69) (.seq (.reg false [2] [⟨some 2, .mv (.c (.bool false)), none, 0, []⟩])
  (.ret))
  (.skip)))
  (.seq (.reg false [1, 3, 5, 6, 7] [⟨some 70, .mv (.t 3), none, 0, []⟩,
    ⟨some 71, .call (.f 69) [(.t 70)], none, 0, []⟩,
    ⟨some 72, .call (.f 71) [(.t 71)], none, 0, []⟩,
    ⟨some 7, .mv (.t 72), none, 0, []⟩])
  (.seq (.seq (.reg false [1, 3, 5, 6, 7, 85] [⟨some 73, .mv (.t 7), none, 0, []⟩,
    ⟨some 74, .bin .eql .ptr (.t 73) (.c (.ptr none)), none, 0, []⟩,
    ⟨some 75, .mv (.t 74), none, 0, []⟩,
    ⟨some 76, .mv (.t 7), some (75, false), 0, []⟩,
    ⟨some 77, .call (.f 71) [(.t 76)], some (75, false), 0, []⟩,
    ⟨some 78, .bin .eql .ptr (.t 77) (.c (.ptr none)), some (75, false), 0, []⟩,
    ⟨some 79, .pick (.t 75) (.c (.bool true)) (.t 78), none, 0, []⟩,
    ⟨some 80, .mv (.t 79), none, 0, []⟩,
    ⟨some 81, .mv (.t 7), some (80, false), 0, []⟩,
    ⟨some 82, .call (.f 71) [(.t 81)], some (80, false), 0, []⟩,
    ⟨some 83, .call (.f 71) [(.t 82)], some (80, false), 0, []⟩,
    ⟨some 84, .bin .eql .ptr (.t 83) (.c (.ptr none)), some (80, false), 0, []⟩,
    ⟨some 85, .pick (.t 80) (.c (.bool true)) (.t 84), none, 0, []⟩])
  (.cond (.t 85) (.seq (.reg false [2] [⟨some 2, .mv (.c (.bool false)), none, 0, []⟩])
  (.ret))
  (.skip)))
  (.seq (.reg false [1, 3, 5, 6, 7, 8] [⟨some 86, .mv (.t 3), none, 0, []⟩,
    ⟨some 87, .call (.f 52) [(.t 86)], none, 0, []⟩,
    ⟨some 8, .mv (.t 87), none, 0, []⟩])
  (.seq (.seq (.reg true [1, 3, 5, 8, 118] [⟨some 88, .mv (.t 3), none, 0, []⟩,
    ⟨some 91, .load (some 3) (.t 1), none, 3, []⟩,
    ⟨some 89, .call (.f 69) [(.t 88)], none, 1, [3]⟩,
    ⟨some 90, .call (.f 69) [(.t 89)], none, 2, [3]⟩,
    ⟨some 92, .call (.f 101) [(.t 90), (.t 91)], none, 4, []⟩,
    ⟨some 93, .un .not (.t 92), none, 5, []⟩,
    ⟨some 94, .mv (.t 93), none, 6, []⟩,
    ⟨some 95, .mv (.t 6), some (94, false), 7, []⟩,
    ⟨some 98, .load (some 3) (.t 1), some (94, false), 10, []⟩,
    ⟨some 96, .call (.f 71) [(.t 95)], some (94, false), 8, [10]⟩,
    ⟨some 97, .call (.f 71) [(.t 96)], some (94, false), 9, [10]⟩,
    ⟨some 99, .call (.f 101) [(.t 97), (.t 98)], some (94, false), 11, []⟩,
    ⟨some 100, .un .not (.t 99), some (94, false), 12, []⟩,
    ⟨some 101, .pick (.t 94) (.c (.bool true)) (.t 100), none, 13, []⟩,
    ⟨some 102, .mv (.t 101), none, 14, []⟩,
    ⟨some 103, .mv (.t 5), some (102, false), 15, []⟩,
    ⟨some 106, .mv (.t 7), some (102, false), 18, []⟩,
    ⟨some 104, .call (.f 69) [(.t 103)], some (102, false), 16, []⟩,
    ⟨some 105, .call (.f 45) [(.t 104)], some (102, false), 17, []⟩,
    ⟨some 107, .call (.f 71) [(.t 106)], some (102, false), 19, []⟩,
    ⟨some 108, .call (.f 71) [(.t 107)], some (102, false), 20, []⟩,
    ⟨some 109, .call (.f 45) [(.t 108)], some (102, false), 21, []⟩,
    ⟨some 110, .call (.f 84) [(.t 105), (.t 109)], some (102, false), 22, []⟩,
    ⟨some 111, .un .not (.t 110), some (102, false), 23, []⟩,
    ⟨some 112, .pick (.t 102) (.c (.bool true)) (.t 111), none, 24, []⟩,
    ⟨some 113, .mv (.t 112), none, 25, []⟩,
    ⟨some 114, .mv (.t 5), some (113, false), 26, []⟩,
    ⟨some 116, .mv (.t 8), some (113, false), 28, []⟩,
    ⟨some 115, .call (.f 52) [(.t 114)], some (113, false), 27, []⟩,
    ⟨some 117, .bin .neq .num (.t 115) (.t 116), some (113, false), 29, []⟩,
    ⟨some 118, .pick (.t 113) (.c (.bool true)) (.t 117), none, 30, []⟩])
  (.cond (.t 118) (.seq (.reg false [2] [⟨some 2, .mv (.c (.bool false)), none, 0, []⟩])
  (.ret))
  (.skip)))
  (.seq (.seq (.reg false [1, 3, 5, 8, 9] [⟨some 9, .mv (.c (.int .i64 0)), none, 0, []⟩])
  (.block 0 (.loop [1, 3, 5, 8, 9] burinlaw2_BitmapTurns_l0)))
  (.seq (.reg false [1, 3, 8] [⟨some 144, .mv (.t 3), none, 0, []⟩,
    ⟨some 145, .call (.f 66) [(.t 144)], none, 0, []⟩])
  (.seq (.seq (.reg true [1, 3, 161] [⟨some 146, .mv (.t 3), none, 0, []⟩,
    ⟨some 148, .fad 0 (.t 1), none, 2, []⟩,
    ⟨some 149, .load none (.t 148), none, 3, []⟩,
    ⟨some 150, .fad 1 (.t 1), none, 4, []⟩,
    ⟨some 151, .load none (.t 150), none, 5, []⟩,
    ⟨some 152, .bin .mul .num (.t 149) (.t 151), none, 6, []⟩,
    ⟨some 153, .mv (.t 8), none, 7, []⟩,
    ⟨some 154, .bin .sub .num (.t 152) (.t 153), none, 8, []⟩,
    ⟨some 147, .call (.f 52) [(.t 146)], none, 1, [3, 5]⟩,
    ⟨some 155, .bin .neq .num (.t 147) (.t 154), none, 9, []⟩,
    ⟨some 156, .mv (.t 155), none, 10, []⟩,
    ⟨some 157, .mv (.t 3), some (156, false), 11, []⟩,
    ⟨some 158, .call (.f 45) [(.t 157)], some (156, false), 12, []⟩,
    ⟨some 159, .call (.f 76) [(.t 158)], some (156, false), 13, []⟩,
    ⟨some 160, .un .not (.t 159), some (156, false), 14, []⟩,
    ⟨some 161, .pick (.t 156) (.c (.bool true)) (.t 160), none, 15, []⟩])
  (.cond (.t 161) (.seq (.reg false [2] [⟨some 2, .mv (.c (.bool false)), none, 0, []⟩])
  (.ret))
  (.skip)))
  (.seq (.reg false [1, 3] [⟨some 162, .mv (.t 3), none, 0, []⟩,
    ⟨some 163, .call (.f 66) [(.t 162)], none, 0, []⟩])
  (.seq (.reg false [2] [⟨some 164, .mv (.t 3), none, 0, []⟩,
    ⟨some 165, .load (some 3) (.t 1), none, 0, []⟩,
    ⟨some 166, .call (.f 101) [(.t 164), (.t 165)], none, 0, []⟩,
    ⟨some 167, .mv (.t 166), none, 0, []⟩,
    ⟨some 168, .call (.f 99) [], some (167, true), 0, []⟩,
    ⟨some 169, .pick (.t 167) (.t 168) (.c (.bool false)), none, 0, []⟩,
    ⟨some 2, .mv (.t 169), none, 0, []⟩])
  (.ret))))))))))))))))⟩

/-- burin/burinlaw2.BitmapFills -/
def burinlaw2_BitmapFills : AFun := ⟨1, 242, true, [.t 2],
  .seq (.reg false [1] [⟨some 1, .box 14 (.t 0), none, 0, []⟩,
    ⟨some 2, .mv (.c (.bool false)), none, 0, []⟩])
  (.seq (.seq (.reg false [1, 19] [⟨some 9, .fad 0 (.t 1), none, 0, []⟩,
    ⟨some 10, .load (some 3) (.t 9), none, 0, []⟩,
    ⟨some 11, .call (.f 76) [(.t 10)], none, 0, []⟩,
    ⟨some 12, .un .not (.t 11), none, 0, []⟩,
    ⟨some 13, .mv (.t 12), none, 0, []⟩,
    ⟨some 14, .fad 0 (.t 1), some (13, false), 0, []⟩,
    ⟨some 15, .load (some 3) (.t 14), some (13, false), 0, []⟩,
    ⟨some 16, .bslice 3 [.int .i64 0, .int .i64 0, .sl none 0 0 0] 1 [(0, (.t 15))], some (13, false), 0, []⟩,
    ⟨some 17, .call (.f 98) [(.t 16), (.c (.int .i64 60000))], some (13, false), 0, []⟩,
    ⟨some 18, .un .not (.t 17), some (13, false), 0, []⟩,
    ⟨some 19, .pick (.t 13) (.c (.bool true)) (.t 18), none, 0, []⟩])
  (.cond (.t 19) (.seq (.reg false [2] [⟨some 20, .call (.f 99) [], none, 0, []⟩,
    ⟨some 2, .mv (.t 20), none, 0, []⟩])
  (.ret))
  (.skip)))
  (.seq (.reg false [1, 3, 4] [⟨some 22, .fad 0 (.t 1), none, 0, []⟩,
    ⟨some 23, .load (some 3) (.t 22), none, 0, []⟩,
    ⟨some 24, .call (.f 44) [(.t 23)], none, 0, []⟩,
    ⟨some 21, .mv (.t 24), none, 0, []⟩,
    ⟨some 25, .ext 0 (.t 21), none, 0, []⟩,
    ⟨some 26, .ext 1 (.t 21), none, 0, []⟩,
    ⟨some 3, .mv (.t 25), none, 0, []⟩,
    ⟨some 4, .mv (.t 26), none, 0, []⟩])
  (.seq (.seq (.reg false [1, 3, 32] [⟨some 27, .mv (.t 4), none, 0, []⟩,
    ⟨some 28, .bin .neq .num (.t 27) (.c (.int .i64 0)), none, 0, []⟩,
    ⟨some 29, .mv (.t 28), none, 0, []⟩,
    ⟨some 30, .mv (.t 3), some (29, false), 0, []⟩,
    ⟨some 31, .bin .eql .ptr (.t 30) (.c (.ptr none)), some (29, false), 0, []⟩,
    ⟨some 32, .pick (.t 29) (.c (.bool true)) (.t 31), none, 0, []⟩])
  (.cond (.t 32) (.seq (.reg false [2] [⟨some 2, .mv (.c (.bool false)), none, 0, []⟩])
  (.ret))
  (.skip)))
  (.seq (.reg false [1, 3, 5] [⟨some 5, .mv (.c (.int .i64 9223372036854775807)), none, 0, []⟩])
  (.seq (.seq (.reg true [1, 3, 5, 74] [⟨some 33, .mv (.t 3), none, 0, []⟩,
    ⟨some 34, .mv (.t 5), none, 1, []⟩,
    ⟨some 35, .mv (.t 5), none, 2, []⟩,
    ⟨some 36, .call (.f 56) [(.t 33), (.c (.int .i64 0)), (.c (.int .i64 0)), (.t 34), (.t 35), (.c (.int .i64 1))], none, 3, []⟩,
    ⟨some 37, .bin .neq .num (.t 36) (.c (.int .i64 0)), none, 4, []⟩,
    ⟨some 38, .mv (.t 37), none, 5, []⟩,
    ⟨some 39, .mv (.t 3), some (38, false), 6, []⟩,
    ⟨some 41, .fad 0 (.t 1), some (38, false), 8, []⟩,
    ⟨some 42, .fad 0 (.t 41), some (38, false), 9, []⟩,
    ⟨some 43, .load none (.t 42), some (38, false), 10, []⟩,
    ⟨some 44, .fad 0 (.t 1), some (38, false), 11, []⟩,
    ⟨some 45, .fad 1 (.t 44), some (38, false), 12, []⟩,
    ⟨some 46, .load none (.t 45), some (38, false), 13, []⟩,
    ⟨some 47, .bin .mul .num (.t 43) (.t 46), some (38, false), 14, []⟩,
    ⟨some 40, .call (.f 52) [(.t 39)], some (38, false), 7, [10, 13]⟩,
    ⟨some 48, .bin .neq .num (.t 40) (.t 47), some (38, false), 15, []⟩,
    ⟨some 49, .pick (.t 38) (.c (.bool true)) (.t 48), none, 16, []⟩,
    ⟨some 50, .mv (.t 49), none, 17, []⟩,
    ⟨some 51, .mv (.t 3), some (50, false), 18, []⟩,
    ⟨some 52, .mv (.t 5), some (50, false), 19, []⟩,
    ⟨some 53, .un .neg (.t 52), some (50, false), 20, []⟩,
    ⟨some 54, .bin .sub .num (.t 53) (.c (.int .i64 1)), some (50, false), 21, []⟩,
    ⟨some 55, .mv (.t 5), some (50, false), 22, []⟩,
    ⟨some 56, .un .neg (.t 55), some (50, false), 23, []⟩,
    ⟨some 57, .bin .sub .num (.t 56) (.c (.int .i64 1)), some (50, false), 24, []⟩,
    ⟨some 58, .mv (.t 5), some (50, false), 25, []⟩,
    ⟨some 59, .mv (.t 5), some (50, false), 26, []⟩,
    ⟨some 60, .call (.f 56) [(.t 51), (.t 54), (.t 57), (.t 58), (.t 59), (.c (.int .i64 0))], some (50, false), 27, []⟩,
    ⟨some 61, .bin .neq .num (.t 60) (.c (.int .i64 0)), some (50, false), 28, []⟩,
    ⟨some 62, .pick (.t 50) (.c (.bool true)) (.t 61), none, 29, []⟩,
    ⟨some 63, .mv (.t 62), none, 30, []⟩,
    ⟨some 64, .mv (.t 3), some (63, false), 31, []⟩,
    ⟨some 66, .fad 0 (.t 1), some (63, false), 33, []⟩,
    ⟨some 67, .fad 0 (.t 66), some (63, false), 34, []⟩,
    ⟨some 68, .load none (.t 67), some (63, false), 35, []⟩,
    ⟨some 69, .fad 0 (.t 1), some (63, false), 36, []⟩,
    ⟨some 70, .fad 1 (.t 69), some (63, false), 37, []⟩,
    ⟨some 71, .load none (.t 70), some (63, false), 38, []⟩,
    ⟨some 72, .bin .mul .num (.t 68) (.t 71), some (63, false), 39, []⟩,
    ⟨some 65, .call (.f 52) [(.t 64)], some (63, false), 32, [35, 38]⟩,
    ⟨some 73, .bin .neq .num (.t 65) (.t 72), some (63, false), 40, []⟩,
    ⟨some 74, .pick (.t 63) (.c (.bool true)) (.t 73), none, 41, []⟩])
  (.cond (.t 74) (.seq (.reg false [2] [⟨some 2, .mv (.c (.bool false)), none, 0, []⟩])
  (.ret))
  (.skip)))
  (.seq (.seq (.reg true [1, 3, 5, 119] [⟨some 75, .mv (.t 3), none, 0, []⟩,
    ⟨some 76, .mv (.t 5), none, 1, []⟩,
    ⟨some 77, .mv (.t 5), none, 2, []⟩,
    ⟨some 78, .mv (.t 5), none, 3, []⟩,
    ⟨some 79, .call (.f 56) [(.t 75), (.t 76), (.c (.int .i64 0)), (.t 77), (.t 78), (.c (.int .i64 0))], none, 4, []⟩,
    ⟨some 80, .bin .neq .num (.t 79) (.c (.int .i64 0)), none, 5, []⟩,
    ⟨some 81, .mv (.t 80), none, 6, []⟩,
    ⟨some 82, .mv (.t 3), some (81, false), 7, []⟩,
    ⟨some 83, .mv (.t 5), some (81, false), 8, []⟩,
    ⟨some 84, .call (.f 56) [(.t 82), (.c (.int .i64 (-5))), (.c (.int .i64 (-5))), (.c (.int .i64 5)), (.t 83), (.c (.int .i64 0))], some (81, false), 9, []⟩,
    ⟨some 85, .bin .neq .num (.t 84) (.c (.int .i64 0)), some (81, false), 10, []⟩,
    ⟨some 86, .pick (.t 81) (.c (.bool true)) (.t 85), none, 11, []⟩,
    ⟨some 87, .mv (.t 86), none, 12, []⟩,
    ⟨some 88, .mv (.t 3), some (87, false), 13, []⟩,
    ⟨some 90, .fad 0 (.t 1), some (87, false), 15, []⟩,
    ⟨some 91, .fad 0 (.t 90), some (87, false), 16, []⟩,
    ⟨some 92, .load none (.t 91), some (87, false), 17, []⟩,
    ⟨some 93, .fad 0 (.t 1), some (87, false), 18, []⟩,
    ⟨some 94, .fad 1 (.t 93), some (87, false), 19, []⟩,
    ⟨some 95, .load none (.t 94), some (87, false), 20, []⟩,
    ⟨some 96, .bin .mul .num (.t 92) (.t 95), some (87, false), 21, []⟩,
    ⟨some 89, .call (.f 52) [(.t 88)], some (87, false), 14, [17, 20]⟩,
    ⟨some 97, .bin .neq .num (.t 89) (.t 96), some (87, false), 22, []⟩,
    ⟨some 98, .pick (.t 87) (.c (.bool true)) (.t 97), none, 23, []⟩,
    ⟨some 99, .mv (.t 98), none, 24, []⟩,
    ⟨some 100, .mv (.t 3), some (99, false), 25, []⟩,
    ⟨some 101, .mv (.t 5), some (99, false), 26, []⟩,
    ⟨some 102, .un .neg (.t 101), some (99, false), 27, []⟩,
    ⟨some 103, .mv (.t 5), some (99, false), 28, []⟩,
    ⟨some 104, .mv (.t 5), some (99, false), 29, []⟩,
    ⟨some 105, .call (.f 56) [(.t 100), (.t 102), (.c (.int .i64 0)), (.t 103), (.t 104), (.c (.int .i64 0))], some (99, false), 30, []⟩,
    ⟨some 106, .bin .neq .num (.t 105) (.c (.int .i64 0)), some (99, false), 31, []⟩,
    ⟨some 107, .pick (.t 99) (.c (.bool true)) (.t 106), none, 32, []⟩,
    ⟨some 108, .mv (.t 107), none, 33, []⟩,
    ⟨some 109, .mv (.t 3), some (108, false), 34, []⟩,
    ⟨some 111, .fad 0 (.t 1), some (108, false), 36, []⟩,
    ⟨some 112, .fad 0 (.t 111), some (108, false), 37, []⟩,
    ⟨some 113, .load none (.t 112), some (108, false), 38, []⟩,
    ⟨some 114, .fad 0 (.t 1), some (108, false), 39, []⟩,
    ⟨some 115, .fad 1 (.t 114), some (108, false), 40, []⟩,
    ⟨some 116, .load none (.t 115), some (108, false), 41, []⟩,
    ⟨some 117, .bin .mul .num (.t 113) (.t 116), some (108, false), 42, []⟩,
    ⟨some 110, .call (.f 52) [(.t 109)], some (108, false), 35, [38, 41]⟩,
    ⟨some 118, .bin .neq .num (.t 110) (.t 117), some (108, false), 43, []⟩,
    ⟨some 119, .pick (.t 108) (.c (.bool true)) (.t 118), none, 44, []⟩])
  (.cond (.t 119) (.seq (.reg false [2] [⟨some 2, .mv (.c (.bool false)), none, 0, []⟩])
  (.ret))
  (.skip)))
  (.seq (.seq (.reg true [1, 3, 5, 152] [⟨some 120, .mv (.t 3), none, 0, []⟩,
    ⟨some 121, .mv (.t 5), none, 1, []⟩,
    ⟨some 122, .un .neg (.t 121), none, 2, []⟩,
    ⟨some 123, .mv (.t 5), none, 3, []⟩,
    ⟨some 124, .un .neg (.t 123), none, 4, []⟩,
    ⟨some 125, .mv (.t 5), none, 5, []⟩,
    ⟨some 126, .mv (.t 5), none, 6, []⟩,
    ⟨some 127, .call (.f 56) [(.t 120), (.t 122), (.t 124), (.t 125), (.t 126), (.c (.int .i64 0))], none, 7, []⟩,
    ⟨some 128, .bin .neq .num (.t 127) (.c (.int .i64 0)), none, 8, []⟩,
    ⟨some 129, .mv (.t 128), none, 9, []⟩,
    ⟨some 130, .mv (.t 3), some (129, false), 10, []⟩,
    ⟨some 131, .mv (.t 3), some (129, false), 11, []⟩,
    ⟨some 132, .mv (.t 5), some (129, false), 12, []⟩,
    ⟨some 133, .un .neg (.t 132), some (129, false), 13, []⟩,
    ⟨some 134, .bin .sub .num (.t 133) (.c (.int .i64 1)), some (129, false), 14, []⟩,
    ⟨some 135, .mv (.t 5), some (129, false), 15, []⟩,
    ⟨some 136, .mv (.t 5), some (129, false), 16, []⟩,
    ⟨some 137, .mv (.t 5), some (129, false), 17, []⟩,
    ⟨some 138, .call (.f 64) [(.t 130), (.t 131), (.t 134), (.c (.int .i64 0)), (.t 135), (.t 136), (.t 137), (.c (.int .i64 0)), (.c (.int .i64 2))], some (129, false), 18, []⟩,
    ⟨some 139, .bin .neq .num (.t 138) (.c (.int .i64 0)), some (129, false), 19, []⟩,
    ⟨some 140, .pick (.t 129) (.c (.bool true)) (.t 139), none, 20, []⟩,
    ⟨some 141, .mv (.t 140), none, 21, []⟩,
    ⟨some 142, .mv (.t 3), some (141, false), 22, []⟩,
    ⟨some 144, .fad 0 (.t 1), some (141, false), 24, []⟩,
    ⟨some 145, .fad 0 (.t 144), some (141, false), 25, []⟩,
    ⟨some 146, .load none (.t 145), some (141, false), 26, []⟩,
    ⟨some 147, .fad 0 (.t 1), some (141, false), 27, []⟩,
    ⟨some 148, .fad 1 (.t 147), some (141, false), 28, []⟩,
    ⟨some 149, .load none (.t 148), some (141, false), 29, []⟩,
    ⟨some 150, .bin .mul .num (.t 146) (.t 149), some (141, false), 30, []⟩,
    ⟨some 143, .call (.f 52) [(.t 142)], some (141, false), 23, [26, 29]⟩,
    ⟨some 151, .bin .neq .num (.t 143) (.t 150), some (141, false), 31, []⟩,
    ⟨some 152, .pick (.t 141) (.c (.bool true)) (.t 151), none, 32, []⟩])
  (.cond (.t 152) (.seq (.reg false [2] [⟨some 2, .mv (.c (.bool false)), none, 0, []⟩])
  (.ret))
  (.skip)))
  (.seq (.reg false [1, 3, 5, 6] [⟨some 153, .fad 6 (.t 1), none, 0, []⟩,
    ⟨some 154, .iad (some 8) 1 (.t 153) (.c (.int .i64 0)), none, 0, []⟩,
    ⟨some 155, .load none (.t 154), none, 0, []⟩,
    ⟨some 156, .fad 0 (.t 1), none, 0, []⟩,
    ⟨some 157, .fad 0 (.t 156), none, 0, []⟩,
    ⟨some 158, .load none (.t 157), none, 0, []⟩,
    ⟨some 159, .call (.f 29) [(.t 155), (.t 158)], none, 0, []⟩,
    ⟨some 6, .mv (.t 159), none, 0, []⟩])
  (.seq (.reg false [1, 3, 5, 6, 7] [⟨some 160, .fad 6 (.t 1), none, 0, []⟩,
    ⟨some 161, .iad (some 8) 1 (.t 160) (.c (.int .i64 1)), none, 0, []⟩,
    ⟨some 162, .load none (.t 161), none, 0, []⟩,
    ⟨some 163, .fad 0 (.t 1), none, 0, []⟩,
    ⟨some 164, .fad 1 (.t 163), none, 0, []⟩,
    ⟨some 165, .load none (.t 164), none, 0, []⟩,
    ⟨some 166, .call (.f 29) [(.t 162), (.t 165)], none, 0, []⟩,
    ⟨some 7, .mv (.t 166), none, 0, []⟩])
  (.seq (.seq (.reg true [3, 5, 197] [⟨some 167, .mv (.t 3), none, 0, []⟩,
    ⟨some 168, .mv (.t 6), none, 1, []⟩,
    ⟨some 169, .mv (.t 7), none, 2, []⟩,
    ⟨some 170, .mv (.t 5), none, 3, []⟩,
    ⟨some 171, .mv (.t 5), none, 4, []⟩,
    ⟨some 172, .call (.f 56) [(.t 167), (.t 168), (.t 169), (.t 170), (.t 171), (.c (.int .i64 0))], none, 5, []⟩,
    ⟨some 173, .bin .neq .num (.t 172) (.c (.int .i64 0)), none, 6, []⟩,
    ⟨some 174, .mv (.t 173), none, 7, []⟩,
    ⟨some 175, .mv (.t 3), some (174, false), 8, []⟩,
    ⟨some 177, .fad 0 (.t 1), some (174, false), 10, []⟩,
    ⟨some 178, .fad 0 (.t 177), some (174, false), 11, []⟩,
    ⟨some 179, .load none (.t 178), some (174, false), 12, []⟩,
    ⟨some 180, .fad 0 (.t 1), some (174, false), 13, []⟩,
    ⟨some 181, .fad 1 (.t 180), some (174, false), 14, []⟩,
    ⟨some 182, .load none (.t 181), some (174, false), 15, []⟩,
    ⟨some 183, .bin .mul .num (.t 179) (.t 182), some (174, false), 16, []⟩,
    ⟨some 184, .fad 0 (.t 1), some (174, false), 17, []⟩,
    ⟨some 185, .fad 0 (.t 184), some (174, false), 18, []⟩,
    ⟨some 186, .load none (.t 185), some (174, false), 19, []⟩,
    ⟨some 187, .mv (.t 6), some (174, false), 20, []⟩,
    ⟨some 188, .bin .sub .num (.t 186) (.t 187), some (174, false), 21, []⟩,
    ⟨some 189, .fad 0 (.t 1), some (174, false), 22, []⟩,
    ⟨some 190, .fad 1 (.t 189), some (174, false), 23, []⟩,
    ⟨some 191, .load none (.t 190), some (174, false), 24, []⟩,
    ⟨some 192, .mv (.t 7), some (174, false), 25, []⟩,
    ⟨some 193, .bin .sub .num (.t 191) (.t 192), some (174, false), 26, []⟩,
    ⟨some 194, .bin .mul .num (.t 188) (.t 193), some (174, false), 27, []⟩,
    ⟨some 195, .bin .sub .num (.t 183) (.t 194), some (174, false), 28, []⟩,
    ⟨some 176, .call (.f 52) [(.t 175)], some (174, false), 9, [12, 15, 19, 24]⟩,
    ⟨some 196, .bin .neq .num (.t 176) (.t 195), some (174, false), 29, []⟩,
    ⟨some 197, .pick (.t 174) (.c (.bool true)) (.t 196), none, 30, []⟩])
  (.cond (.t 197) (.seq (.reg false [2] [⟨some 2, .mv (.c (.bool false)), none, 0, []⟩])
  (.ret))
  (.skip)))
  (.seq (.reg false [3, 4, 8] [⟨some 199, .mv (.t 3), none, 0, []⟩,
    ⟨some 200, .mv (.t 5), none, 0, []⟩,
    ⟨some 201, .mv (.t 5), none, 0, []⟩,
    ⟨some 202, .un .neg (.t 201), none, 0, []⟩,
    ⟨some 203, .bin .sub .num (.t 202) (.c (.int .i64 1)), none, 0, []⟩,
    ⟨some 204, .call (.f 65) [(.t 199), (.t 200), (.t 203), (.c (.int .i64 3)), (.c (.int .i64 2))], none, 0, []⟩,
    ⟨some 198, .mv (.t 204), none, 0, []⟩,
    ⟨some 205, .ext 0 (.t 198), none, 0, []⟩,
    ⟨some 206, .ext 1 (.t 198), none, 0, []⟩,
    ⟨some 8, .mv (.t 205), none, 0, []⟩,
    ⟨some 4, .mv (.t 206), none, 0, []⟩])
  (.seq (.reg false [2] [⟨some 207, .mv (.t 4), none, 0, []⟩,
    ⟨some 208, .bin .eql .num (.t 207) (.c (.int .i64 0)), none, 0, []⟩,
    ⟨some 209, .mv (.t 208), none, 0, []⟩,
    ⟨some 210, .mv (.t 8), some (209, true), 0, []⟩,
    ⟨some 211, .bin .neq .ptr (.t 210) (.c (.ptr none)), some (209, true), 0, []⟩,
    ⟨some 212, .pick (.t 209) (.t 211) (.c (.bool false)), none, 0, []⟩,
    ⟨some 213, .mv (.t 212), none, 0, []⟩,
    ⟨some 214, .mv (.t 8), some (213, true), 0, []⟩,
    ⟨some 215, .call (.f 52) [(.t 214)], some (213, true), 0, []⟩,
    ⟨some 216, .bin .eql .num (.t 215) (.c (.int .i64 0)), some (213, true), 0, []⟩,
    ⟨some 217, .pick (.t 213) (.t 216) (.c (.bool false)), none, 0, []⟩,
    ⟨some 218, .mv (.t 217), none, 0, []⟩,
    ⟨some 219, .mv (.t 3), some (218, true), 0, []⟩,
    ⟨some 220, .call (.f 56) [(.t 219), (.c (.int .i64 0)), (.c (.int .i64 0)), (.c (.int .i64 (-1))), (.c (.int .i64 1)), (.c (.int .i64 1))], some (218, true), 0, []⟩,
    ⟨some 221, .bin .eql .num (.t 220) (.c (.int .i64 24)), some (218, true), 0, []⟩,
    ⟨some 222, .pick (.t 218) (.t 221) (.c (.bool false)), none, 0, []⟩,
    ⟨some 223, .mv (.t 222), none, 0, []⟩,
    ⟨some 224, .mv (.t 3), some (223, true), 0, []⟩,
    ⟨some 225, .call (.f 56) [(.t 224), (.c (.int .i64 0)), (.c (.int .i64 0)), (.c (.int .i64 1)), (.c (.int .i64 1)), (.c (.int .i64 2))], some (223, true), 0, []⟩,
    ⟨some 226, .bin .eql .num (.t 225) (.c (.int .i64 23)), some (223, true), 0, []⟩,
    ⟨some 227, .pick (.t 223) (.t 226) (.c (.bool false)), none, 0, []⟩,
    ⟨some 228, .mv (.t 227), none, 0, []⟩,
    ⟨some 229, .mv (.t 3), some (228, true), 0, []⟩,
    ⟨some 230, .call (.f 64) [(.t 229), (.c (.ptr none)), (.c (.int .i64 0)), (.c (.int .i64 0)), (.c (.int .i64 1)), (.c (.int .i64 1)), (.c (.int .i64 0)), (.c (.int .i64 0)), (.c (.int .i64 0))], some (228, true), 0, []⟩,
    ⟨some 231, .bin .eql .num (.t 230) (.c (.int .i64 26)), some (228, true), 0, []⟩,
    ⟨some 232, .pick (.t 228) (.t 231) (.c (.bool false)), none, 0, []⟩,
    ⟨some 233, .mv (.t 232), none, 0, []⟩,
    ⟨some 234, .mv (.t 3), some (233, true), 0, []⟩,
    ⟨some 235, .mv (.t 3), some (233, true), 0, []⟩,
    ⟨some 236, .call (.f 64) [(.t 234), (.t 235), (.c (.int .i64 0)), (.c (.int .i64 0)), (.c (.int .i64 1)), (.c (.int .i64 1)), (.c (.int .i64 0)), (.c (.int .i64 0)), (.c (.int .i64 5))], some (233, true), 0, []⟩,
    ⟨some 237, .bin .eql .num (.t 236) (.c (.int .i64 25)), some (233, true), 0, []⟩,
    ⟨some 238, .pick (.t 233) (.t 237) (.c (.bool false)), none, 0, []⟩,
    ⟨some 239, .mv (.t 238), none, 0, []⟩,
    ⟨some 240, .call (.f 99) [], some (239, true), 0, []⟩,
    ⟨some 241, .pick (.t 239) (.t 240) (.c (.bool false)), none, 0, []⟩,
    ⟨some 2, .mv (.t 241), none, 0, []⟩])
  (.ret)))))))))))))⟩

def burinlaw2_BitmapEqual_l1 : Cd := .seq (.seq (.reg false [0, 3, 4, 17] [⟨some 15, .mv (.t 4), none, 0, []⟩,
    ⟨some 16, .mv (.t 3), none, 0, []⟩,
    ⟨some 17, .bin .leq .num (.t 15) (.t 16), none, 0, []⟩])
  (.cond (.t 17) (.skip)
  (.exit 2)))
  (.seq (.block 3 (.seq (.reg true [0, 3, 4, 66] [⟨some 20, .mv (.t 0), none, 0, []⟩,
    ⟨some 21, .mv (.t 3), none, 1, []⟩,
    ⟨some 22, .iad none 3 (.t 20) (.t 21), none, 2, []⟩,
    ⟨some 23, .load (some 3) (.t 22), none, 3, []⟩,
    ⟨some 24, .mv (.t 0), none, 4, []⟩,
    ⟨some 25, .mv (.t 4), none, 5, []⟩,
    ⟨some 26, .iad none 3 (.t 24) (.t 25), none, 6, []⟩,
    ⟨some 27, .load (some 3) (.t 26), none, 7, []⟩,
    ⟨some 29, .mv (.t 0), none, 9, []⟩,
    ⟨some 30, .mv (.t 3), none, 10, []⟩,
    ⟨some 31, .iad none 3 (.t 29) (.t 30), none, 11, []⟩,
    ⟨some 32, .load (some 3) (.t 31), none, 12, []⟩,
    ⟨some 28, .call (.f 73) [(.t 23), (.t 27)], none, 8, [12]⟩,
    ⟨some 33, .call (.f 76) [(.t 32)], none, 13, []⟩,
    ⟨some 34, .mv (.t 33), none, 14, []⟩,
    ⟨some 35, .mv (.t 0), some (34, true), 15, []⟩,
    ⟨some 36, .mv (.t 3), some (34, true), 16, []⟩,
    ⟨some 37, .iad none 3 (.t 35) (.t 36), some (34, true), 17, []⟩,
    ⟨some 38, .load (some 3) (.t 37), some (34, true), 18, []⟩,
    ⟨some 39, .mv (.t 0), some (34, true), 19, []⟩,
    ⟨some 40, .mv (.t 4), some (34, true), 20, []⟩,
    ⟨some 41, .iad none 3 (.t 39) (.t 40), some (34, true), 21, []⟩,
    ⟨some 42, .load (some 3) (.t 41), some (34, true), 22, []⟩,
    ⟨some 43, .call (.f 84) [(.t 38), (.t 42)], some (34, true), 23, []⟩,
    ⟨some 44, .pick (.t 34) (.t 43) (.c (.bool false)), none, 24, []⟩,
    ⟨some 45, .bin .neq .bool (.t 28) (.t 44), none, 25, []⟩,
    ⟨some 46, .mv (.t 45), none, 26, []⟩,
    ⟨some 47, .mv (.t 0), some (46, false), 27, []⟩,
    ⟨some 48, .mv (.t 3), some (46, false), 28, []⟩,
    ⟨some 49, .iad none 3 (.t 47) (.t 48), some (46, false), 29, []⟩,
    ⟨some 50, .load (some 3) (.t 49), some (46, false), 30, []⟩,
    ⟨some 51, .mv (.t 0), some (46, false), 31, []⟩,
    ⟨some 52, .mv (.t 4), some (46, false), 32, []⟩,
    ⟨some 53, .iad none 3 (.t 51) (.t 52), some (46, false), 33, []⟩,
    ⟨some 54, .load (some 3) (.t 53), some (46, false), 34, []⟩,
    ⟨some 56, .mv (.t 0), some (46, false), 36, []⟩,
    ⟨some 57, .mv (.t 4), some (46, false), 37, []⟩,
    ⟨some 58, .iad none 3 (.t 56) (.t 57), some (46, false), 38, []⟩,
    ⟨some 59, .load (some 3) (.t 58), some (46, false), 39, []⟩,
    ⟨some 60, .mv (.t 0), some (46, false), 40, []⟩,
    ⟨some 61, .mv (.t 3), some (46, false), 41, []⟩,
    ⟨some 62, .iad none 3 (.t 60) (.t 61), some (46, false), 42, []⟩,
    ⟨some 63, .load (some 3) (.t 62), some (46, false), 43, []⟩,
    ⟨some 55, .call (.f 73) [(.t 50), (.t 54)], some (46, false), 35, [39, 43]⟩,
    ⟨some 64, .call (.f 73) [(.t 59), (.t 63)], some (46, false), 44, []⟩,
    ⟨some 65, .bin .neq .bool (.t 55) (.t 64), some (46, false), 45, []⟩,
    ⟨some 66, .pick (.t 46) (.c (.bool true)) (.t 65), none, 46, []⟩])
  (.cond (.t 66) (.seq (.reg false [2] [⟨some 2, .mv (.c (.bool false)), none, 0, []⟩])
  (.ret))
  (.skip))))
  (.reg false [0, 3, 4] [⟨some 18, .mv (.t 4), none, 0, []⟩,
    ⟨some 19, .bin .add .num (.t 18) (.c (.int .i64 1)), none, 0, []⟩,
    ⟨some 4, .mv (.t 19), none, 0, []⟩]))
def burinlaw2_BitmapEqual_l0 : Cd := .seq (.seq (.reg false [0, 3, 12] [⟨some 5, .mv (.t 3), none, 0, []⟩,
    ⟨some 6, .mv (.t 0), none, 0, []⟩,
    ⟨some 7, .len none (.t 6), none, 0, []⟩,
    ⟨some 8, .bin .lss .num (.t 5) (.t 7), none, 0, []⟩,
    ⟨some 9, .mv (.t 8), none, 0, []⟩,
    ⟨some 10, .mv (.t 3), some (9, true), 0, []⟩,
    ⟨some 11, .bin .lss .num (.t 10) (.c (.int .i64 6)), some (9, true), 0, []⟩,
    ⟨some 12, .pick (.t 9) (.t 11) (.c (.bool false)), none, 0, []⟩])
  (.cond (.t 12) (.skip)
  (.exit 0)))
  (.seq (.block 1 (.seq (.reg false [0, 3, 4] [⟨some 4, .mv (.c (.int .i64 0)), none, 0, []⟩])
  (.block 2 (.loop [0, 3, 4] burinlaw2_BitmapEqual_l1))))
  (.reg false [0, 3] [⟨some 13, .mv (.t 3), none, 0, []⟩,
    ⟨some 14, .bin .add .num (.t 13) (.c (.int .i64 1)), none, 0, []⟩,
    ⟨some 3, .mv (.t 14), none, 0, []⟩]))
/-- burin/burinlaw2.BitmapEqual -/
def burinlaw2_BitmapEqual : AFun := ⟨1, 68, true, [.t 2],
  .seq (.reg false [0] [⟨some 2, .mv (.c (.bool false)), none, 0, []⟩])
  (.seq (.seq (.reg false [0, 3] [⟨some 3, .mv (.c (.int .i64 0)), none, 0, []⟩])
  (.block 0 (.loop [0, 3] burinlaw2_BitmapEqual_l0)))
  (.seq (.reg false [2] [⟨some 67, .call (.f 99) [], none, 0, []⟩,
    ⟨some 2, .mv (.t 67), none, 0, []⟩])
  (.ret)))⟩

def burinlaw2_BitmapOps_l3 : Cd := .seq (.seq (.reg false [1, 3, 4, 5, 6, 7, 46] [⟨some 44, .mv (.t 7), none, 0, []⟩,
    ⟨some 45, .mv (.t 3), none, 0, []⟩,
    ⟨some 46, .bin .lss .num (.t 44) (.t 45), none, 0, []⟩])
  (.cond (.t 46) (.skip)
  (.exit 2)))
  (.seq (.block 3 (.seq (.reg false [1, 3, 4, 5, 6, 7, 51] [⟨some 49, .fad 3 (.t 1), none, 0, []⟩,
    ⟨some 50, .load (some 3) (.t 49), none, 0, []⟩,
    ⟨some 51, .call (.f 76) [(.t 50)], none, 0, []⟩])
  (.cond (.t 51) (.reg true [1, 3, 4, 5, 6, 7] [⟨some 52, .load (some 3) (.t 5), none, 0, []⟩,
    ⟨some 53, .mv (.t 7), none, 1, []⟩,
    ⟨some 54, .mv (.t 6), none, 2, []⟩,
    ⟨some 55, .fad 3 (.t 1), none, 3, []⟩,
    ⟨some 56, .load (some 3) (.t 55), none, 4, []⟩,
    ⟨some 57, .mv (.t 7), none, 5, []⟩,
    ⟨some 58, .mv (.t 6), none, 6, []⟩,
    ⟨some 59, .call (.f 78) [(.t 56), (.t 57), (.t 58)], none, 7, [0]⟩,
    ⟨some 60, .call (.f 79) [(.t 52), (.t 53), (.t 54), (.t 59)], none, 8, []⟩])
  (.skip))))
  (.reg false [1, 3, 4, 5, 6, 7] [⟨some 47, .mv (.t 7), none, 0, []⟩,
    ⟨some 48, .bin .add .num (.t 47) (.c (.int .i64 1)), none, 0, []⟩,
    ⟨some 7, .mv (.t 48), none, 0, []⟩]))
def burinlaw2_BitmapOps_l2 : Cd := .seq (.seq (.reg false [1, 3, 4, 5, 6, 41] [⟨some 39, .mv (.t 6), none, 0, []⟩,
    ⟨some 40, .mv (.t 4), none, 0, []⟩,
    ⟨some 41, .bin .lss .num (.t 39) (.t 40), none, 0, []⟩])
  (.cond (.t 41) (.skip)
  (.exit 0)))
  (.seq (.block 1 (.seq (.reg false [1, 3, 4, 5, 6, 7] [⟨some 7, .mv (.c (.int .i64 0)), none, 0, []⟩])
  (.block 2 (.loop [1, 3, 4, 5, 6, 7] burinlaw2_BitmapOps_l3))))
  (.reg false [1, 3, 4, 5, 6] [⟨some 42, .mv (.t 6), none, 0, []⟩,
    ⟨some 43, .bin .add .num (.t 42) (.c (.int .i64 1)), none, 0, []⟩,
    ⟨some 6, .mv (.t 43), none, 0, []⟩]))
def burinlaw2_BitmapOps_l1 : Cd := .seq (.seq (.reg false [1, 3, 4, 5, 8, 9, 62] [⟨some 61, .mv (.t 9), none, 0, []⟩,
    ⟨some 62, .bin .lss .num (.t 61) (.c (.int .i64 7)), none, 0, []⟩])
  (.cond (.t 62) (.skip)
  (.exit 4)))
  (.seq (.block 5 (.seq (.reg false [1, 3, 4, 5, 8, 9, 10, 11] [⟨some 66, .fad 0 (.t 1), none, 0, []⟩,
    ⟨some 67, .load (some 3) (.t 66), none, 0, []⟩,
    ⟨some 68, .call (.f 44) [(.t 67)], none, 0, []⟩,
    ⟨some 65, .mv (.t 68), none, 0, []⟩,
    ⟨some 69, .ext 0 (.t 65), none, 0, []⟩,
    ⟨some 70, .ext 1 (.t 65), none, 0, []⟩,
    ⟨some 10, .mv (.t 69), none, 0, []⟩,
    ⟨some 11, .mv (.t 70), none, 0, []⟩])
  (.seq (.seq (.reg false [1, 3, 4, 5, 8, 9, 10, 76] [⟨some 71, .mv (.t 11), none, 0, []⟩,
    ⟨some 72, .bin .neq .num (.t 71) (.c (.int .i64 0)), none, 0, []⟩,
    ⟨some 73, .mv (.t 72), none, 0, []⟩,
    ⟨some 74, .mv (.t 10), some (73, false), 0, []⟩,
    ⟨some 75, .bin .eql .ptr (.t 74) (.c (.ptr none)), some (73, false), 0, []⟩,
    ⟨some 76, .pick (.t 73) (.c (.bool true)) (.t 75), none, 0, []⟩])
  (.cond (.t 76) (.seq (.reg false [2] [⟨some 2, .mv (.c (.bool false)), none, 0, []⟩])
  (.ret))
  (.skip)))
  (.reg false [1, 3, 4, 5, 8, 9] [⟨some 77, .mv (.t 8), none, 0, []⟩,
    ⟨some 78, .mv (.t 10), none, 0, []⟩,
    ⟨some 79, .bslice 1 [.ptr none] 1 [(0, (.t 78))], none, 0, []⟩,
    ⟨some 80, .append 1 8 (.t 77) (.t 79), none, 0, []⟩,
    ⟨some 8, .mv (.t 80), none, 0, []⟩]))))
  (.reg false [1, 3, 4, 5, 8, 9] [⟨some 63, .mv (.t 9), none, 0, []⟩,
    ⟨some 64, .bin .add .num (.t 63) (.c (.int .i64 1)), none, 0, []⟩,
    ⟨some 9, .mv (.t 64), none, 0, []⟩]))
def burinlaw2_BitmapOps_l0 : Cd := .seq (.seq (.reg false [1, 3, 4, 5, 8, 12, 14, 93] [⟨some 92, .mv (.t 14), none, 0, []⟩,
    ⟨some 93, .bin .lss .num (.t 92) (.c (.int .i64 5)), none, 0, []⟩])
  (.cond (.t 93) (.skip)
  (.exit 6)))
  (.seq (.block 7 (.seq (.reg false [1, 3, 4, 5, 8, 12, 14, 105] [⟨some 96, .mv (.t 8), none, 0, []⟩,
    ⟨some 97, .mv (.t 14), none, 0, []⟩,
    ⟨some 98, .iad none 1 (.t 96) (.t 97), none, 0, []⟩,
    ⟨some 99, .load none (.t 98), none, 0, []⟩,
    ⟨some 100, .mv (.t 12), none, 0, []⟩,
    ⟨some 101, .mv (.t 3), none, 0, []⟩,
    ⟨some 102, .mv (.t 4), none, 0, []⟩,
    ⟨some 103, .mv (.t 14), none, 0, []⟩,
    ⟨some 104, .call (.f 64) [(.t 99), (.t 100), (.c (.int .i64 0)), (.c (.int .i64 0)), (.t 101), (.t 102), (.c (.int .i64 0)), (.c (.int .i64 0)), (.t 103)], none, 0, []⟩,
    ⟨some 105, .bin .neq .num (.t 104) (.c (.int .i64 0)), none, 0, []⟩])
  (.cond (.t 105) (.seq (.reg false [2] [⟨some 2, .mv (.c (.bool false)), none, 0, []⟩])
  (.ret))
  (.skip))))
  (.reg false [1, 3, 4, 5, 8, 12, 14] [⟨some 94, .mv (.t 14), none, 0, []⟩,
    ⟨some 95, .bin .add .num (.t 94) (.c (.int .i64 1)), none, 0, []⟩,
    ⟨some 14, .mv (.t 95), none, 0, []⟩]))
/-- burin/burinlaw2.BitmapOps -/
def burinlaw2_BitmapOps : AFun := ⟨1, 237, true, [.t 2],
  .seq (.reg false [1] [⟨some 1, .box 14 (.t 0), none, 0, []⟩,
    ⟨some 2, .mv (.c (.bool false)), none, 0, []⟩])
  (.seq (.seq (.reg false [1, 28] [⟨some 18, .fad 0 (.t 1), none, 0, []⟩,
    ⟨some 19, .load (some 3) (.t 18), none, 0, []⟩,
    ⟨some 20, .call (.f 76) [(.t 19)], none, 0, []⟩,
    ⟨some 21, .un .not (.t 20), none, 0, []⟩,
    ⟨some 22, .mv (.t 21), none, 0, []⟩,
    ⟨some 23, .fad 0 (.t 1), some (22, false), 0, []⟩,
    ⟨some 24, .load (some 3) (.t 23), some (22, false), 0, []⟩,
    ⟨some 25, .bslice 3 [.int .i64 0, .int .i64 0, .sl none 0 0 0] 1 [(0, (.t 24))], some (22, false), 0, []⟩,
    ⟨some 26, .call (.f 98) [(.t 25), (.c (.int .i64 60000))], some (22, false), 0, []⟩,
    ⟨some 27, .un .not (.t 26), some (22, false), 0, []⟩,
    ⟨some 28, .pick (.t 22) (.c (.bool true)) (.t 27), none, 0, []⟩])
  (.cond (.t 28) (.seq (.reg false [2] [⟨some 29, .call (.f 99) [], none, 0, []⟩,
    ⟨some 2, .mv (.t 29), none, 0, []⟩])
  (.ret))
  (.skip)))
  (.seq (.reg false [1, 3] [⟨some 30, .fad 0 (.t 1), none, 0, []⟩,
    ⟨some 31, .fad 0 (.t 30), none, 0, []⟩,
    ⟨some 32, .load none (.t 31), none, 0, []⟩,
    ⟨some 3, .mv (.t 32), none, 0, []⟩])
  (.seq (.reg false [1, 3, 4] [⟨some 33, .fad 0 (.t 1), none, 0, []⟩,
    ⟨some 34, .fad 1 (.t 33), none, 0, []⟩,
    ⟨some 35, .load none (.t 34), none, 0, []⟩,
    ⟨some 4, .mv (.t 35), none, 0, []⟩])
  (.seq (.reg false [1, 3, 4, 5] [⟨some 36, .mv (.t 3), none, 0, []⟩,
    ⟨some 37, .mv (.t 4), none, 0, []⟩,
    ⟨some 38, .call (.f 77) [(.t 36), (.t 37)], none, 0, []⟩,
    ⟨some 5, .alloc [.int .i64 0, .int .i64 0, .sl none 0 0 0], none, 0, []⟩,
    ⟨none, .store 3 (.t 5) (.t 38), none, 0, []⟩])
  (.seq (.seq (.reg false [1, 3, 4, 5, 6] [⟨some 6, .mv (.c (.int .i64 0)), none, 0, []⟩])
  (.block 0 (.loop [1, 3, 4, 5, 6] burinlaw2_BitmapOps_l2)))
  (.seq (.reg false [1, 3, 4, 5, 8] [⟨some 8, .mv (.c (.sl none 0 0 0)), none, 0, []⟩])
  (.seq (.seq (.reg false [1, 3, 4, 5, 8, 9] [⟨some 9, .mv (.c (.int .i64 0)), none, 0, []⟩])
  (.block 4 (.loop [1, 3, 4, 5, 8, 9] burinlaw2_BitmapOps_l1)))
  (.seq (.reg false [1, 3, 4, 5, 8, 12, 13] [⟨some 82, .load (some 3) (.t 5), none, 0, []⟩,
    ⟨some 83, .call (.f 44) [(.t 82)], none, 0, []⟩,
    ⟨some 81, .mv (.t 83), none, 0, []⟩,
    ⟨some 84, .ext 0 (.t 81), none, 0, []⟩,
    ⟨some 85, .ext 1 (.t 81), none, 0, []⟩,
    ⟨some 12, .mv (.t 84), none, 0, []⟩,
    ⟨some 13, .mv (.t 85), none, 0, []⟩])
  (.seq (.seq (.reg false [1, 3, 4, 5, 8, 12, 91] [⟨some 86, .mv (.t 13), none, 0, []⟩,
    ⟨some 87, .bin .neq .num (.t 86) (.c (.int .i64 0)), none, 0, []⟩,
    ⟨some 88, .mv (.t 87), none, 0, []⟩,
    ⟨some 89, .mv (.t 12), some (88, false), 0, []⟩,
    ⟨some 90, .bin .eql .ptr (.t 89) (.c (.ptr none)), some (88, false), 0, []⟩,
    ⟨some 91, .pick (.t 88) (.c (.bool true)) (.t 90), none, 0, []⟩])
  (.cond (.t 91) (.seq (.reg false [2] [⟨some 2, .mv (.c (.bool false)), none, 0, []⟩])
  (.ret))
  (.skip)))
  (.seq (.seq (.reg false [1, 3, 4, 5, 8, 12, 14] [⟨some 14, .mv (.c (.int .i64 0)), none, 0, []⟩])
  (.block 6 (.loop [1, 3, 4, 5, 8, 12, 14] burinlaw2_BitmapOps_l0)))
  (.seq (.reg false [1, 3, 4, 5, 8, 12, 15] [⟨some 106, .mv (.t 8), none, 0, []⟩,
    ⟨some 107, .iad none 1 (.t 106) (.c (.int .i64 0)), none, 0, []⟩,
    ⟨some 108, .load none (.t 107), none, 0, []⟩,
    ⟨some 109, .call (.f 45) [(.t 108)], none, 0, []⟩,
    ⟨some 15, .alloc [.int .i64 0, .int .i64 0, .sl none 0 0 0], none, 0, []⟩,
    ⟨none, .store 3 (.t 15) (.t 109), none, 0, []⟩])
  (.seq (.reg false [1, 3, 4, 5, 8, 12, 15, 16] [⟨some 110, .mv (.t 8), none, 0, []⟩,
    ⟨some 111, .iad none 1 (.t 110) (.c (.int .i64 1)), none, 0, []⟩,
    ⟨some 112, .load none (.t 111), none, 0, []⟩,
    ⟨some 113, .call (.f 45) [(.t 112)], none, 0, []⟩,
    ⟨some 16, .alloc [.int .i64 0, .int .i64 0, .sl none 0 0 0], none, 0, []⟩,
    ⟨none, .store 3 (.t 16) (.t 113), none, 0, []⟩])
  (.seq (.reg false [1, 3, 4, 5, 8, 12, 15, 16, 17] [⟨some 114, .mv (.t 8), none, 0, []⟩,
    ⟨some 115, .iad none 1 (.t 114) (.c (.int .i64 2)), none, 0, []⟩,
    ⟨some 116, .load none (.t 115), none, 0, []⟩,
    ⟨some 117, .call (.f 45) [(.t 116)], none, 0, []⟩,
    ⟨some 17, .alloc [.int .i64 0, .int .i64 0, .sl none 0 0 0], none, 0, []⟩,
    ⟨none, .store 3 (.t 17) (.t 117), none, 0, []⟩])
  (.seq (.reg false [1, 3, 4, 5, 8, 12, 15, 16, 17] [⟨some 118, .mv (.t 8), none, 0, []⟩,
    ⟨some 119, .iad none 1 (.t 118) (.c (.int .i64 3)), none, 0, []⟩,
    ⟨some 120, .load none (.t 119), none, 0, []⟩,
    ⟨some 121, .call (.f 66) [(.t 120)], none, 0, []⟩])
  (.seq (.seq (.reg true [1, 3, 4, 5, 8, 12, 15, 16, 17, 135] [⟨some 122, .mv (.t 8), none, 0, []⟩,
    ⟨some 123, .iad none 1 (.t 122) (.c (.int .i64 3)), none, 1, []⟩,
    ⟨some 124, .load none (.t 123), none, 2, []⟩,
    ⟨some 125, .load (some 3) (.t 17), none, 3, []⟩,
    ⟨some 126, .call (.f 101) [(.t 124), (.t 125)], none, 4, []⟩,
    ⟨some 127, .un .not (.t 126), none, 5, []⟩,
    ⟨some 128, .mv (.t 127), none, 6, []⟩,
    ⟨some 129, .mv (.t 8), some (128, false), 7, []⟩,
    ⟨some 130, .iad none 1 (.t 129) (.c (.int .i64 4)), some (128, false), 8, []⟩,
    ⟨some 131, .load none (.t 130), some (128, false), 9, []⟩,
    ⟨some 132, .load (some 3) (.t 5), some (128, false), 10, []⟩,
    ⟨some 133, .call (.f 101) [(.t 131), (.t 132)], some (128, false), 11, []⟩,
    ⟨some 134, .un .not (.t 133), some (128, false), 12, []⟩,
    ⟨some 135, .pick (.t 128) (.c (.bool true)) (.t 134), none, 13, []⟩])
  (.cond (.t 135) (.seq (.reg false [2] [⟨some 2, .mv (.c (.bool false)), none, 0, []⟩])
  (.ret))
  (.skip)))
  (.seq (.seq (.reg false [1, 3, 4, 5, 8, 12, 15, 16, 17, 163] [⟨some 136, .mv (.t 8), none, 0, []⟩,
    ⟨some 137, .iad none 1 (.t 136) (.c (.int .i64 0)), none, 0, []⟩,
    ⟨some 138, .load none (.t 137), none, 0, []⟩,
    ⟨some 139, .mv (.t 12), none, 0, []⟩,
    ⟨some 140, .mv (.t 3), none, 0, []⟩,
    ⟨some 141, .mv (.t 4), none, 0, []⟩,
    ⟨some 142, .call (.f 64) [(.t 138), (.t 139), (.c (.int .i64 0)), (.c (.int .i64 0)), (.t 140), (.t 141), (.c (.int .i64 0)), (.c (.int .i64 0)), (.c (.int .i64 0))], none, 0, []⟩,
    ⟨some 143, .bin .neq .num (.t 142) (.c (.int .i64 0)), none, 0, []⟩,
    ⟨some 144, .mv (.t 143), none, 0, []⟩,
    ⟨some 145, .mv (.t 8), some (144, false), 0, []⟩,
    ⟨some 146, .iad none 1 (.t 145) (.c (.int .i64 1)), some (144, false), 0, []⟩,
    ⟨some 147, .load none (.t 146), some (144, false), 0, []⟩,
    ⟨some 148, .mv (.t 12), some (144, false), 0, []⟩,
    ⟨some 149, .mv (.t 3), some (144, false), 0, []⟩,
    ⟨some 150, .mv (.t 4), some (144, false), 0, []⟩,
    ⟨some 151, .call (.f 64) [(.t 147), (.t 148), (.c (.int .i64 0)), (.c (.int .i64 0)), (.t 149), (.t 150), (.c (.int .i64 0)), (.c (.int .i64 0)), (.c (.int .i64 1))], some (144, false), 0, []⟩,
    ⟨some 152, .bin .neq .num (.t 151) (.c (.int .i64 0)), some (144, false), 0, []⟩,
    ⟨some 153, .pick (.t 144) (.c (.bool true)) (.t 152), none, 0, []⟩,
    ⟨some 154, .mv (.t 153), none, 0, []⟩,
    ⟨some 155, .mv (.t 8), some (154, false), 0, []⟩,
    ⟨some 156, .iad none 1 (.t 155) (.c (.int .i64 2)), some (154, false), 0, []⟩,
    ⟨some 157, .load none (.t 156), some (154, false), 0, []⟩,
    ⟨some 158, .mv (.t 12), some (154, false), 0, []⟩,
    ⟨some 159, .mv (.t 3), some (154, false), 0, []⟩,
    ⟨some 160, .mv (.t 4), some (154, false), 0, []⟩,
    ⟨some 161, .call (.f 64) [(.t 157), (.t 158), (.c (.int .i64 0)), (.c (.int .i64 0)), (.t 159), (.t 160), (.c (.int .i64 0)), (.c (.int .i64 0)), (.c (.int .i64 2))], some (154, false), 0, []⟩,
    ⟨some 162, .bin .neq .num (.t 161) (.c (.int .i64 0)), some (154, false), 0, []⟩,
    ⟨some 163, .pick (.t 154) (.c (.bool true)) (.t 162), none, 0, []⟩])
  (.cond (.t 163) (.seq (.reg false [2] [⟨some 2, .mv (.c (.bool false)), none, 0, []⟩])
  (.ret))
  (.skip)))
  (.seq (.seq (.reg true [1, 3, 4, 5, 8, 12, 15, 16, 17, 186] [⟨some 164, .mv (.t 8), none, 0, []⟩,
    ⟨some 165, .iad none 1 (.t 164) (.c (.int .i64 0)), none, 1, []⟩,
    ⟨some 166, .load none (.t 165), none, 2, []⟩,
    ⟨some 167, .load (some 3) (.t 15), none, 3, []⟩,
    ⟨some 168, .call (.f 101) [(.t 166), (.t 167)], none, 4, []⟩,
    ⟨some 169, .un .not (.t 168), none, 5, []⟩,
    ⟨some 170, .mv (.t 169), none, 6, []⟩,
    ⟨some 171, .mv (.t 8), some (170, false), 7, []⟩,
    ⟨some 172, .iad none 1 (.t 171) (.c (.int .i64 1)), some (170, false), 8, []⟩,
    ⟨some 173, .load none (.t 172), some (170, false), 9, []⟩,
    ⟨some 174, .load (some 3) (.t 16), some (170, false), 10, []⟩,
    ⟨some 175, .call (.f 101) [(.t 173), (.t 174)], some (170, false), 11, []⟩,
    ⟨some 176, .un .not (.t 175), some (170, false), 12, []⟩,
    ⟨some 177, .pick (.t 170) (.c (.bool true)) (.t 176), none, 13, []⟩,
    ⟨some 178, .mv (.t 177), none, 14, []⟩,
    ⟨some 179, .mv (.t 8), some (178, false), 15, []⟩,
    ⟨some 180, .iad none 1 (.t 179) (.c (.int .i64 2)), some (178, false), 16, []⟩,
    ⟨some 181, .load none (.t 180), some (178, false), 17, []⟩,
    ⟨some 182, .fad 0 (.t 1), some (178, false), 18, []⟩,
    ⟨some 183, .load (some 3) (.t 182), some (178, false), 19, []⟩,
    ⟨some 184, .call (.f 101) [(.t 181), (.t 183)], some (178, false), 20, []⟩,
    ⟨some 185, .un .not (.t 184), some (178, false), 21, []⟩,
    ⟨some 186, .pick (.t 178) (.c (.bool true)) (.t 185), none, 22, []⟩])
  (.cond (.t 186) (.seq (.reg false [2] [⟨some 2, .mv (.c (.bool false)), none, 0, []⟩])
  (.ret))
  (.skip)))
  (.seq (.reg false [1, 3, 4, 5, 8, 12, 15, 16, 17] [⟨some 187, .mv (.t 8), none, 0, []⟩,
    ⟨some 188, .iad none 1 (.t 187) (.c (.int .i64 5)), none, 0, []⟩,
    ⟨some 189, .load none (.t 188), none, 0, []⟩,
    ⟨some 190, .call (.f 66) [(.t 189)], none, 0, []⟩])
  (.seq (.reg false [1, 3, 4, 5, 8, 12, 15, 16, 17] [⟨some 191, .mv (.t 12), none, 0, []⟩,
    ⟨some 192, .call (.f 66) [(.t 191)], none, 0, []⟩])
  (.seq (.seq (.reg false [1, 5, 8, 15, 16, 17, 200] [⟨some 193, .mv (.t 8), none, 0, []⟩,
    ⟨some 194, .iad none 1 (.t 193) (.c (.int .i64 5)), none, 0, []⟩,
    ⟨some 195, .load none (.t 194), none, 0, []⟩,
    ⟨some 196, .mv (.t 12), none, 0, []⟩,
    ⟨some 197, .mv (.t 3), none, 0, []⟩,
    ⟨some 198, .mv (.t 4), none, 0, []⟩,
    ⟨some 199, .call (.f 64) [(.t 195), (.t 196), (.c (.int .i64 0)), (.c (.int .i64 0)), (.t 197), (.t 198), (.c (.int .i64 0)), (.c (.int .i64 0)), (.c (.int .i64 1))], none, 0, []⟩,
    ⟨some 200, .bin .neq .num (.t 199) (.c (.int .i64 0)), none, 0, []⟩])
  (.cond (.t 200) (.seq (.reg false [2] [⟨some 2, .mv (.c (.bool false)), none, 0, []⟩])
  (.ret))
  (.skip)))
  (.seq (.reg false [1, 5, 8, 15, 16, 17] [⟨some 201, .mv (.t 8), none, 0, []⟩,
    ⟨some 202, .iad none 1 (.t 201) (.c (.int .i64 5)), none, 0, []⟩,
    ⟨some 203, .load none (.t 202), none, 0, []⟩,
    ⟨some 204, .call (.f 66) [(.t 203)], none, 0, []⟩])
  (.seq (.reg true [2] [⟨some 205, .mv (.t 8), none, 0, []⟩,
    ⟨some 206, .iad none 1 (.t 205) (.c (.int .i64 5)), none, 1, []⟩,
    ⟨some 207, .load none (.t 206), none, 2, []⟩,
    ⟨some 208, .load (some 3) (.t 15), none, 3, []⟩,
    ⟨some 209, .call (.f 101) [(.t 207), (.t 208)], none, 4, []⟩,
    ⟨some 210, .mv (.t 209), none, 5, []⟩,
    ⟨some 211, .load (some 3) (.t 15), some (210, true), 6, []⟩,
    ⟨some 213, .load (some 3) (.t 16), some (210, true), 8, []⟩,
    ⟨some 216, .fad 0 (.t 1), some (210, true), 11, []⟩,
    ⟨some 217, .load (some 3) (.t 216), some (210, true), 12, []⟩,
    ⟨some 219, .load (some 3) (.t 5), some (210, true), 14, []⟩,
    ⟨some 212, .call (.f 81) [(.t 211)], some (210, true), 7, [8, 12, 14]⟩,
    ⟨some 214, .call (.f 81) [(.t 213)], some (210, true), 9, [12, 14]⟩,
    ⟨some 215, .bin .add .num (.t 212) (.t 214), some (210, true), 10, []⟩,
    ⟨some 218, .call (.f 81) [(.t 217)], some (210, true), 13, [14]⟩,
    ⟨some 220, .call (.f 81) [(.t 219)], some (210, true), 15, []⟩,
    ⟨some 221, .bin .add .num (.t 218) (.t 220), some (210, true), 16, []⟩,
    ⟨some 222, .bin .eql .num (.t 215) (.t 221), some (210, true), 17, []⟩,
    ⟨some 223, .pick (.t 210) (.t 222) (.c (.bool false)), none, 18, []⟩,
    ⟨some 224, .mv (.t 223), none, 19, []⟩,
    ⟨some 225, .load (some 3) (.t 15), some (224, true), 20, []⟩,
    ⟨some 227, .load (some 3) (.t 16), some (224, true), 22, []⟩,
    ⟨some 230, .load (some 3) (.t 17), some (224, true), 25, []⟩,
    ⟨some 226, .call (.f 81) [(.t 225)], some (224, true), 21, [22, 25]⟩,
    ⟨some 228, .call (.f 81) [(.t 227)], some (224, true), 23, [25]⟩,
    ⟨some 229, .bin .sub .num (.t 226) (.t 228), some (224, true), 24, []⟩,
    ⟨some 231, .call (.f 81) [(.t 230)], some (224, true), 26, []⟩,
    ⟨some 232, .bin .eql .num (.t 229) (.t 231), some (224, true), 27, []⟩,
    ⟨some 233, .pick (.t 224) (.t 232) (.c (.bool false)), none, 28, []⟩,
    ⟨some 234, .mv (.t 233), none, 29, []⟩,
    ⟨some 235, .call (.f 99) [], some (234, true), 30, []⟩,
    ⟨some 236, .pick (.t 234) (.t 235) (.c (.bool false)), none, 31, []⟩,
    ⟨some 2, .mv (.t 236), none, 32, []⟩])
  (.ret)))))))))))))))))))))))⟩

def burinlaw2_BitmapCrops_l1 : Cd := .seq (.seq (.reg false [1, 3, 5, 6, 7, 8, 9, 16, 17, 18, 175] [⟨some 173, .mv (.t 18), none, 0, []⟩,
    ⟨some 174, .mv (.t 7), none, 0, []⟩,
    ⟨some 175, .bin .lss .num (.t 173) (.t 174), none, 0, []⟩])
  (.cond (.t 175) (.skip)
  (.exit 2)))
  (.seq (.block 3 (.reg false [1, 3, 5, 6, 7, 8, 9, 16, 17, 18] [⟨some 178, .mv (.t 16), none, 0, []⟩,
    ⟨some 179, .fad 0 (.t 1), none, 0, []⟩,
    ⟨some 180, .load (some 3) (.t 179), none, 0, []⟩,
    ⟨some 181, .mv (.t 5), none, 0, []⟩,
    ⟨some 182, .mv (.t 18), none, 0, []⟩,
    ⟨some 183, .bin .add .num (.t 181) (.t 182), none, 0, []⟩,
    ⟨some 184, .mv (.t 6), none, 0, []⟩,
    ⟨some 185, .mv (.t 17), none, 0, []⟩,
    ⟨some 186, .bin .add .num (.t 184) (.t 185), none, 0, []⟩,
    ⟨some 187, .call (.f 78) [(.t 180), (.t 183), (.t 186)], none, 0, []⟩,
    ⟨some 188, .bin .add .num (.t 178) (.t 187), none, 0, []⟩,
    ⟨some 16, .mv (.t 188), none, 0, []⟩]))
  (.reg false [1, 3, 5, 6, 7, 8, 9, 16, 17, 18] [⟨some 176, .mv (.t 18), none, 0, []⟩,
    ⟨some 177, .bin .add .num (.t 176) (.c (.int .i64 1)), none, 0, []⟩,
    ⟨some 18, .mv (.t 177), none, 0, []⟩]))
def burinlaw2_BitmapCrops_l0 : Cd := .seq (.seq (.reg false [1, 3, 5, 6, 7, 8, 9, 16, 17, 170] [⟨some 168, .mv (.t 17), none, 0, []⟩,
    ⟨some 169, .mv (.t 8), none, 0, []⟩,
    ⟨some 170, .bin .lss .num (.t 168) (.t 169), none, 0, []⟩])
  (.cond (.t 170) (.skip)
  (.exit 0)))
  (.seq (.block 1 (.seq (.reg false [1, 3, 5, 6, 7, 8, 9, 16, 17, 18] [⟨some 18, .mv (.c (.int .i64 0)), none, 0, []⟩])
  (.block 2 (.loop [1, 3, 5, 6, 7, 8, 9, 16, 17, 18] burinlaw2_BitmapCrops_l1))))
  (.reg false [1, 3, 5, 6, 7, 8, 9, 16, 17] [⟨some 171, .mv (.t 17), none, 0, []⟩,
    ⟨some 172, .bin .add .num (.t 171) (.c (.int .i64 1)), none, 0, []⟩,
    ⟨some 17, .mv (.t 172), none, 0, []⟩]))
/-- burin/burinlaw2.BitmapCrops -/
def burinlaw2_BitmapCrops : AFun := ⟨1, 202, true, [.t 2],
  .seq (.reg false [1] [⟨some 1, .box 14 (.t 0), none, 0, []⟩,
    ⟨some 2, .mv (.c (.bool false)), none, 0, []⟩])
  (.seq (.seq (.reg false [1, 29] [⟨some 19, .fad 0 (.t 1), none, 0, []⟩,
    ⟨some 20, .load (some 3) (.t 19), none, 0, []⟩,
    ⟨some 21, .call (.f 76) [(.t 20)], none, 0, []⟩,
    ⟨some 22, .un .not (.t 21), none, 0, []⟩,
    ⟨some 23, .mv (.t 22), none, 0, []⟩,
    ⟨some 24, .fad 0 (.t 1), some (23, false), 0, []⟩,
    ⟨some 25, .load (some 3) (.t 24), some (23, false), 0, []⟩,
    ⟨some 26, .bslice 3 [.int .i64 0, .int .i64 0, .sl none 0 0 0] 1 [(0, (.t 25))], some (23, false), 0, []⟩,
    ⟨some 27, .call (.f 98) [(.t 26), (.c (.int .i64 60000))], some (23, false), 0, []⟩,
    ⟨some 28, .un .not (.t 27), some (23, false), 0, []⟩,
    ⟨some 29, .pick (.t 23) (.c (.bool true)) (.t 28), none, 0, []⟩])
  (.cond (.t 29) (.seq (.reg false [2] [⟨some 30, .call (.f 99) [], none, 0, []⟩,
    ⟨some 2, .mv (.t 30), none, 0, []⟩])
  (.ret))
  (.skip)))
  (.seq (.reg false [1, 3, 4] [⟨some 32, .fad 0 (.t 1), none, 0, []⟩,
    ⟨some 33, .load (some 3) (.t 32), none, 0, []⟩,
    ⟨some 34, .call (.f 44) [(.t 33)], none, 0, []⟩,
    ⟨some 31, .mv (.t 34), none, 0, []⟩,
    ⟨some 35, .ext 0 (.t 31), none, 0, []⟩,
    ⟨some 36, .ext 1 (.t 31), none, 0, []⟩,
    ⟨some 3, .mv (.t 35), none, 0, []⟩,
    ⟨some 4, .mv (.t 36), none, 0, []⟩])
  (.seq (.seq (.reg false [1, 3, 42] [⟨some 37, .mv (.t 4), none, 0, []⟩,
    ⟨some 38, .bin .neq .num (.t 37) (.c (.int .i64 0)), none, 0, []⟩,
    ⟨some 39, .mv (.t 38), none, 0, []⟩,
    ⟨some 40, .mv (.t 3), some (39, false), 0, []⟩,
    ⟨some 41, .bin .eql .ptr (.t 40) (.c (.ptr none)), some (39, false), 0, []⟩,
    ⟨some 42, .pick (.t 39) (.c (.bool true)) (.t 41), none, 0, []⟩])
  (.cond (.t 42) (.seq (.reg false [2] [⟨some 2, .mv (.c (.bool false)), none, 0, []⟩])
  (.ret))
  (.skip)))
  (.seq (.reg false [1, 3, 5] [⟨some 43, .fad 6 (.t 1), none, 0, []⟩,
    ⟨some 44, .iad (some 8) 1 (.t 43) (.c (.int .i64 0)), none, 0, []⟩,
    ⟨some 45, .load none (.t 44), none, 0, []⟩,
    ⟨some 46, .bin .rem .num (.t 45) (.c (.int .i64 200)), none, 0, []⟩,
    ⟨some 5, .mv (.t 46), none, 0, []⟩])
  (.seq (.reg false [1, 3, 5, 6] [⟨some 47, .fad 6 (.t 1), none, 0, []⟩,
    ⟨some 48, .iad (some 8) 1 (.t 47) (.c (.int .i64 1)), none, 0, []⟩,
    ⟨some 49, .load none (.t 48), none, 0, []⟩,
    ⟨some 50, .bin .rem .num (.t 49) (.c (.int .i64 30)), none, 0, []⟩,
    ⟨some 6, .mv (.t 50), none, 0, []⟩])
  (.seq (.reg false [1, 3, 5, 6, 7] [⟨some 51, .fad 6 (.t 1), none, 0, []⟩,
    ⟨some 52, .iad (some 8) 1 (.t 51) (.c (.int .i64 2)), none, 0, []⟩,
    ⟨some 53, .load none (.t 52), none, 0, []⟩,
    ⟨some 54, .call (.f 29) [(.t 53), (.c (.int .i64 150))], none, 0, []⟩,
    ⟨some 55, .bin .add .num (.c (.int .i64 1)) (.t 54), none, 0, []⟩,
    ⟨some 7, .mv (.t 55), none, 0, []⟩])
  (.seq (.reg false [1, 3, 5, 6, 7, 8] [⟨some 56, .fad 6 (.t 1), none, 0, []⟩,
    ⟨some 57, .iad (some 8) 1 (.t 56) (.c (.int .i64 3)), none, 0, []⟩,
    ⟨some 58, .load none (.t 57), none, 0, []⟩,
    ⟨some 59, .call (.f 29) [(.t 58), (.c (.int .i64 30))], none, 0, []⟩,
    ⟨some 60, .bin .add .num (.c (.int .i64 1)) (.t 59), none, 0, []⟩,
    ⟨some 8, .mv (.t 60), none, 0, []⟩])
  (.seq (.reg false [1, 3, 4, 5, 6, 7, 8, 9] [⟨some 62, .mv (.t 3), none, 0, []⟩,
    ⟨some 63, .mv (.t 5), none, 0, []⟩,
    ⟨some 64, .mv (.t 6), none, 0, []⟩,
    ⟨some 65, .mv (.t 7), none, 0, []⟩,
    ⟨some 66, .mv (.t 8), none, 0, []⟩,
    ⟨some 67, .call (.f 65) [(.t 62), (.t 63), (.t 64), (.t 65), (.t 66)], none, 0, []⟩,
    ⟨some 61, .mv (.t 67), none, 0, []⟩,
    ⟨some 68, .ext 0 (.t 61), none, 0, []⟩,
    ⟨some 69, .ext 1 (.t 61), none, 0, []⟩,
    ⟨some 9, .mv (.t 68), none, 0, []⟩,
    ⟨some 4, .mv (.t 69), none, 0, []⟩])
  (.seq (.reg false [1, 3, 4, 5, 6, 7, 8, 9, 10, 11] [⟨some 71, .mv (.t 7), none, 0, []⟩,
    ⟨some 72, .mv (.t 8), none, 0, []⟩,
    ⟨some 73, .call (.f 42) [(.t 71), (.t 72)], none, 0, []⟩,
    ⟨some 70, .mv (.t 73), none, 0, []⟩,
    ⟨some 74, .ext 0 (.t 70), none, 0, []⟩,
    ⟨some 75, .ext 1 (.t 70), none, 0, []⟩,
    ⟨some 10, .mv (.t 74), none, 0, []⟩,
    ⟨some 11, .mv (.t 75), none, 0, []⟩])
  (.seq (.seq (.reg false [1, 3, 5, 6, 7, 8, 9, 106] [⟨some 76, .mv (.t 4), none, 0, []⟩,
    ⟨some 77, .bin .neq .num (.t 76) (.c (.int .i64 0)), none, 0, []⟩,
    ⟨some 78, .mv (.t 77), none, 0, []⟩,
    ⟨some 79, .mv (.t 11), some (78, false), 0, []⟩,
    ⟨some 80, .bin .neq .num (.t 79) (.c (.int .i64 0)), some (78, false), 0, []⟩,
    ⟨some 81, .pick (.t 78) (.c (.bool true)) (.t 80), none, 0, []⟩,
    ⟨some 82, .mv (.t 81), none, 0, []⟩,
    ⟨some 83, .mv (.t 9), some (82, false), 0, []⟩,
    ⟨some 84, .bin .eql .ptr (.t 83) (.c (.ptr none)), some (82, false), 0, []⟩,
    ⟨some 85, .pick (.t 82) (.c (.bool true)) (.t 84), none, 0, []⟩,
    ⟨some 86, .mv (.t 85), none, 0, []⟩,
    ⟨some 87, .mv (.t 10), some (86, false), 0, []⟩,
    ⟨some 88, .bin .eql .ptr (.t 87) (.c (.ptr none)), some (86, false), 0, []⟩,
    ⟨some 89, .pick (.t 86) (.c (.bool true)) (.t 88), none, 0, []⟩,
    ⟨some 90, .mv (.t 89), none, 0, []⟩,
    ⟨some 91, .mv (.t 10), some (90, false), 0, []⟩,
    ⟨some 92, .mv (.t 3), some (90, false), 0, []⟩,
    ⟨some 93, .mv (.t 5), some (90, false), 0, []⟩,
    ⟨some 94, .mv (.t 6), some (90, false), 0, []⟩,
    ⟨some 95, .mv (.t 7), some (90, false), 0, []⟩,
    ⟨some 96, .mv (.t 8), some (90, false), 0, []⟩,
    ⟨some 97, .call (.f 64) [(.t 91), (.t 92), (.t 93), (.t 94), (.t 95), (.t 96), (.c (.int .i64 0)), (.c (.int .i64 0)), (.c (.int .i64 0))], some (90, false), 0, []⟩,
    ⟨some 98, .bin .neq .num (.t 97) (.c (.int .i64 0)), some (90, false), 0, []⟩,
    ⟨some 99, .pick (.t 90) (.c (.bool true)) (.t 98), none, 0, []⟩,
    ⟨some 100, .mv (.t 99), none, 0, []⟩,
    ⟨some 101, .mv (.t 9), some (100, false), 0, []⟩,
    ⟨some 102, .mv (.t 10), some (100, false), 0, []⟩,
    ⟨some 103, .call (.f 45) [(.t 102)], some (100, false), 0, []⟩,
    ⟨some 104, .call (.f 101) [(.t 101), (.t 103)], some (100, false), 0, []⟩,
    ⟨some 105, .un .not (.t 104), some (100, false), 0, []⟩,
    ⟨some 106, .pick (.t 100) (.c (.bool true)) (.t 105), none, 0, []⟩])
  (.cond (.t 106) (.seq (.reg false [2] [⟨some 2, .mv (.c (.bool false)), none, 0, []⟩])
  (.ret))
  (.skip)))
  (.seq (.reg false [1, 3, 5, 6, 7, 8, 9, 12] [⟨some 107, .fad 6 (.t 1), none, 0, []⟩,
    ⟨some 108, .iad (some 8) 1 (.t 107) (.c (.int .i64 4)), none, 0, []⟩,
    ⟨some 109, .load none (.t 108), none, 0, []⟩,
    ⟨some 110, .mv (.t 7), none, 0, []⟩,
    ⟨some 111, .call (.f 29) [(.t 109), (.t 110)], none, 0, []⟩,
    ⟨some 12, .mv (.t 111), none, 0, []⟩])
  (.seq (.reg false [1, 3, 5, 6, 7, 8, 9, 12, 13] [⟨some 112, .fad 6 (.t 1), none, 0, []⟩,
    ⟨some 113, .iad (some 8) 1 (.t 112) (.c (.int .i64 5)), none, 0, []⟩,
    ⟨some 114, .load none (.t 113), none, 0, []⟩,
    ⟨some 115, .mv (.t 8), none, 0, []⟩,
    ⟨some 116, .call (.f 29) [(.t 114), (.t 115)], none, 0, []⟩,
    ⟨some 13, .mv (.t 116), none, 0, []⟩])
  (.seq (.reg false [1, 3, 4, 5, 6, 7, 8, 9, 12, 13, 14] [⟨some 118, .mv (.t 9), none, 0, []⟩,
    ⟨some 119, .mv (.t 12), none, 0, []⟩,
    ⟨some 120, .mv (.t 13), none, 0, []⟩,
    ⟨some 121, .mv (.t 7), none, 0, []⟩,
    ⟨some 122, .mv (.t 12), none, 0, []⟩,
    ⟨some 123, .bin .sub .num (.t 121) (.t 122), none, 0, []⟩,
    ⟨some 124, .mv (.t 8), none, 0, []⟩,
    ⟨some 125, .mv (.t 13), none, 0, []⟩,
    ⟨some 126, .bin .sub .num (.t 124) (.t 125), none, 0, []⟩,
    ⟨some 127, .call (.f 65) [(.t 118), (.t 119), (.t 120), (.t 123), (.t 126)], none, 0, []⟩,
    ⟨some 117, .mv (.t 127), none, 0, []⟩,
    ⟨some 128, .ext 0 (.t 117), none, 0, []⟩,
    ⟨some 129, .ext 1 (.t 117), none, 0, []⟩,
    ⟨some 14, .mv (.t 128), none, 0, []⟩,
    ⟨some 4, .mv (.t 129), none, 0, []⟩])
  (.seq (.reg false [1, 3, 4, 5, 6, 7, 8, 9, 11, 14, 15] [⟨some 131, .mv (.t 3), none, 0, []⟩,
    ⟨some 132, .mv (.t 5), none, 0, []⟩,
    ⟨some 133, .mv (.t 12), none, 0, []⟩,
    ⟨some 134, .bin .add .num (.t 132) (.t 133), none, 0, []⟩,
    ⟨some 135, .mv (.t 6), none, 0, []⟩,
    ⟨some 136, .mv (.t 13), none, 0, []⟩,
    ⟨some 137, .bin .add .num (.t 135) (.t 136), none, 0, []⟩,
    ⟨some 138, .mv (.t 7), none, 0, []⟩,
    ⟨some 139, .mv (.t 12), none, 0, []⟩,
    ⟨some 140, .bin .sub .num (.t 138) (.t 139), none, 0, []⟩,
    ⟨some 141, .mv (.t 8), none, 0, []⟩,
    ⟨some 142, .mv (.t 13), none, 0, []⟩,
    ⟨some 143, .bin .sub .num (.t 141) (.t 142), none, 0, []⟩,
    ⟨some 144, .call (.f 65) [(.t 131), (.t 134), (.t 137), (.t 140), (.t 143)], none, 0, []⟩,
    ⟨some 130, .mv (.t 144), none, 0, []⟩,
    ⟨some 145, .ext 0 (.t 130), none, 0, []⟩,
    ⟨some 146, .ext 1 (.t 130), none, 0, []⟩,
    ⟨some 15, .mv (.t 145), none, 0, []⟩,
    ⟨some 11, .mv (.t 146), none, 0, []⟩])
  (.seq (.seq (.reg false [1, 3, 5, 6, 7, 8, 9, 167] [⟨some 147, .mv (.t 4), none, 0, []⟩,
    ⟨some 148, .bin .neq .num (.t 147) (.c (.int .i64 0)), none, 0, []⟩,
    ⟨some 149, .mv (.t 148), none, 0, []⟩,
    ⟨some 150, .mv (.t 11), some (149, false), 0, []⟩,
    ⟨some 151, .bin .neq .num (.t 150) (.c (.int .i64 0)), some (149, false), 0, []⟩,
    ⟨some 152, .pick (.t 149) (.c (.bool true)) (.t 151), none, 0, []⟩,
    ⟨some 153, .mv (.t 152), none, 0, []⟩,
    ⟨some 154, .mv (.t 14), some (153, false), 0, []⟩,
    ⟨some 155, .bin .eql .ptr (.t 154) (.c (.ptr none)), some (153, false), 0, []⟩,
    ⟨some 156, .pick (.t 153) (.c (.bool true)) (.t 155), none, 0, []⟩,
    ⟨some 157, .mv (.t 156), none, 0, []⟩,
    ⟨some 158, .mv (.t 15), some (157, false), 0, []⟩,
    ⟨some 159, .bin .eql .ptr (.t 158) (.c (.ptr none)), some (157, false), 0, []⟩,
    ⟨some 160, .pick (.t 157) (.c (.bool true)) (.t 159), none, 0, []⟩,
    ⟨some 161, .mv (.t 160), none, 0, []⟩,
    ⟨some 162, .mv (.t 14), some (161, false), 0, []⟩,
    ⟨some 163, .mv (.t 15), some (161, false), 0, []⟩,
    ⟨some 164, .call (.f 45) [(.t 163)], some (161, false), 0, []⟩,
    ⟨some 165, .call (.f 101) [(.t 162), (.t 164)], some (161, false), 0, []⟩,
    ⟨some 166, .un .not (.t 165), some (161, false), 0, []⟩,
    ⟨some 167, .pick (.t 161) (.c (.bool true)) (.t 166), none, 0, []⟩])
  (.cond (.t 167) (.seq (.reg false [2] [⟨some 2, .mv (.c (.bool false)), none, 0, []⟩])
  (.ret))
  (.skip)))
  (.seq (.reg false [1, 3, 5, 6, 7, 8, 9, 16] [⟨some 16, .mv (.c (.int .i64 0)), none, 0, []⟩])
  (.seq (.seq (.reg false [1, 3, 5, 6, 7, 8, 9, 16, 17] [⟨some 17, .mv (.c (.int .i64 0)), none, 0, []⟩])
  (.block 0 (.loop [1, 3, 5, 6, 7, 8, 9, 16, 17] burinlaw2_BitmapCrops_l0)))
  (.seq (.reg false [2] [⟨some 189, .mv (.t 9), none, 0, []⟩,
    ⟨some 190, .call (.f 52) [(.t 189)], none, 0, []⟩,
    ⟨some 191, .mv (.t 16), none, 0, []⟩,
    ⟨some 192, .bin .eql .num (.t 190) (.t 191), none, 0, []⟩,
    ⟨some 193, .mv (.t 192), none, 0, []⟩,
    ⟨some 194, .mv (.t 3), some (193, true), 0, []⟩,
    ⟨some 195, .fad 0 (.t 1), some (193, true), 0, []⟩,
    ⟨some 196, .load (some 3) (.t 195), some (193, true), 0, []⟩,
    ⟨some 197, .call (.f 101) [(.t 194), (.t 196)], some (193, true), 0, []⟩,
    ⟨some 198, .pick (.t 193) (.t 197) (.c (.bool false)), none, 0, []⟩,
    ⟨some 199, .mv (.t 198), none, 0, []⟩,
    ⟨some 200, .call (.f 99) [], some (199, true), 0, []⟩,
    ⟨some 201, .pick (.t 199) (.t 200) (.c (.bool false)), none, 0, []⟩,
    ⟨some 2, .mv (.t 201), none, 0, []⟩])
  (.ret)))))))))))))))))))⟩

/-- A program that has them. -/
structure HasLaw2 (P : Prog) : Prop where
  h_burinlaw2_wakes : P 99 = some burinlaw2_wakes
  h_burinlaw2_maps : P 100 = some burinlaw2_maps
  h_burinlaw2_same : P 101 = some burinlaw2_same
  h_burinlaw2_crop : P 102 = some burinlaw2_crop
  h_burinlaw2_BitmapExact : P 103 = some burinlaw2_BitmapExact
  h_burinlaw2_BitmapSizes : P 104 = some burinlaw2_BitmapSizes
  h_burinlaw2_BitmapBlits : P 105 = some burinlaw2_BitmapBlits
  h_burinlaw2_BitmapSelf : P 106 = some burinlaw2_BitmapSelf
  h_burinlaw2_BitmapTurns : P 107 = some burinlaw2_BitmapTurns
  h_burinlaw2_BitmapFills : P 108 = some burinlaw2_BitmapFills
  h_burinlaw2_BitmapEqual : P 109 = some burinlaw2_BitmapEqual
  h_burinlaw2_BitmapOps : P 110 = some burinlaw2_BitmapOps
  h_burinlaw2_BitmapCrops : P 111 = some burinlaw2_BitmapCrops

end Go.Ab
