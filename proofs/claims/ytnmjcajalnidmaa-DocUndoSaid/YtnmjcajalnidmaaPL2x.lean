/- The texts of functions of the given program, for the abstract machine: written by wip/tools/gen.py out of Lean's print of the translation. Conditions: none; definitions alone. -/
import Derived.Test.YtnmjcajalnidmaaK1
set_option linter.all false
namespace Go.Ab
-- burinlaw2_maps: 100, parameters ?; loops burinlaw2_maps_l0 [0 ?, 5 ?, 6 ?, 7 ?]
-- burinlaw2_crop: 102, parameters ? ? ?; loops 
-- burinlaw2_BitmapExact: 103, parameters ?; loops burinlaw2_BitmapExact_l0 [1 ?, 3 ?, 4 ?, 6 ?]

def burinlaw2_maps_l0 : Cd := .seq (.seq (.reg false [0, 5, 6, 7, 20] [⟨some 12, .mv (.t 7), none, 0, []⟩,
    ⟨some 13, .mv (.t 0), none, 0, []⟩,
    ⟨some 14, .len none (.t 13), none, 0, []⟩,
    ⟨some 15, .bin .lss .num (.t 12) (.t 14), none, 0, []⟩,
    ⟨some 16, .mv (.t 15), none, 0, []⟩,
    ⟨some 17, .mv (.t 5), some (16, true), 0, []⟩,
    ⟨some 18, .len none (.t 17), some (16, true), 0, []⟩,
    ⟨some 19, .bin .lss .num (.t 18) (.c (.int .i64 4)), some (16, true), 0, []⟩,
    ⟨some 20, .pick (.t 16) (.t 19) (.c (.bool false)), none, 0, []⟩])
  (.cond (.t 20) (.skip)
  (.exit 0)))
  (.seq (.block 1 (.seq (.seq (.reg false [0, 5, 6, 7, 29] [⟨some 23, .mv (.t 0), none, 0, []⟩,
    ⟨some 24, .mv (.t 7), none, 0, []⟩,
    ⟨some 25, .iad none 3 (.t 23) (.t 24), none, 0, []⟩,
    ⟨some 26, .fad 2 (.t 25), none, 0, []⟩,
    ⟨some 27, .load none (.t 26), none, 0, []⟩,
    ⟨some 28, .len none (.t 27), none, 0, []⟩,
    ⟨some 29, .bin .gtr .num (.t 28) (.c (.int .i64 937)), none, 0, []⟩])
  (.cond (.t 29) (.exit 1)
  (.skip)))
  (.seq (.reg false [0, 5, 6, 7, 8] [⟨some 30, .mv (.t 0), none, 0, []⟩,
    ⟨some 31, .mv (.t 7), none, 0, []⟩,
    ⟨some 32, .iad none 3 (.t 30) (.t 31), none, 0, []⟩,
    ⟨some 33, .load (some 3) (.t 32), none, 0, []⟩,
    ⟨some 34, .call (.f 95) [(.t 33)], none, 0, []⟩,
    ⟨some 8, .alloc [.int .i64 0, .int .i64 0, .sl none 0 0 0], none, 0, []⟩,
    ⟨none, .store 3 (.t 8) (.t 34), none, 0, []⟩])
  (.seq (.reg false [0, 5, 6, 7, 8, 9] [⟨some 35, .mv (.t 0), none, 0, []⟩,
    ⟨some 36, .mv (.t 7), none, 0, []⟩,
    ⟨some 37, .iad none 3 (.t 35) (.t 36), none, 0, []⟩,
    ⟨some 38, .load (some 3) (.t 37), none, 0, []⟩,
    ⟨some 39, .call (.f 76) [(.t 38)], none, 0, []⟩,
    ⟨some 9, .mv (.t 39), none, 0, []⟩])
  (.seq (.seq (.reg false [0, 5, 6, 7, 8, 9, 43] [⟨some 40, .load (some 3) (.t 8), none, 0, []⟩,
    ⟨some 41, .call (.f 41) [(.t 40)], none, 0, []⟩,
    ⟨some 42, .mv (.t 9), none, 0, []⟩,
    ⟨some 43, .bin .neq .bool (.t 41) (.t 42), none, 0, []⟩])
  (.cond (.t 43) (.seq (.reg false [2, 3, 4] [⟨some 2, .mv (.c (.sl none 0 0 0)), none, 0, []⟩,
    ⟨some 3, .mv (.c (.sl none 0 0 0)), none, 0, []⟩,
    ⟨some 4, .mv (.c (.bool false)), none, 0, []⟩])
  (.ret))
  (.skip)))
  (.seq (.reg false [0, 5, 6, 7, 8, 9, 10, 11] [⟨some 45, .load (some 3) (.t 8), none, 0, []⟩,
    ⟨some 46, .call (.f 44) [(.t 45)], none, 0, []⟩,
    ⟨some 44, .mv (.t 46), none, 0, []⟩,
    ⟨some 47, .ext 0 (.t 44), none, 0, []⟩,
    ⟨some 48, .ext 1 (.t 44), none, 0, []⟩,
    ⟨some 10, .mv (.t 47), none, 0, []⟩,
    ⟨some 11, .mv (.t 48), none, 0, []⟩])
  (.seq (.seq (.reg true [0, 5, 6, 7, 9, 10, 75] [⟨some 49, .load (some 3) (.t 8), none, 0, []⟩,
    ⟨some 50, .mv (.t 0), none, 1, []⟩,
    ⟨some 51, .mv (.t 7), none, 2, []⟩,
    ⟨some 52, .iad none 3 (.t 50) (.t 51), none, 3, []⟩,
    ⟨some 53, .load (some 3) (.t 52), none, 4, []⟩,
    ⟨some 54, .call (.f 96) [(.t 49), (.t 53)], none, 5, []⟩,
    ⟨some 55, .un .not (.t 54), none, 6, []⟩,
    ⟨some 56, .mv (.t 55), none, 7, []⟩,
    ⟨some 57, .mv (.t 9), some (56, false), 8, []⟩,
    ⟨some 58, .mv (.t 11), some (56, false), 9, []⟩,
    ⟨some 59, .bin .eql .num (.t 58) (.c (.int .i64 0)), some (56, false), 10, []⟩,
    ⟨some 60, .bin .neq .bool (.t 57) (.t 59), some (56, false), 11, []⟩,
    ⟨some 61, .pick (.t 56) (.c (.bool true)) (.t 60), none, 12, []⟩,
    ⟨some 62, .mv (.t 61), none, 13, []⟩,
    ⟨some 63, .mv (.t 9), some (62, false), 14, []⟩,
    ⟨some 64, .mv (.t 10), some (62, false), 15, []⟩,
    ⟨some 65, .bin .neq .ptr (.t 64) (.c (.ptr none)), some (62, false), 16, []⟩,
    ⟨some 66, .bin .neq .bool (.t 63) (.t 65), some (62, false), 17, []⟩,
    ⟨some 67, .pick (.t 62) (.c (.bool true)) (.t 66), none, 18, []⟩,
    ⟨some 68, .mv (.t 67), none, 19, []⟩,
    ⟨some 69, .mv (.t 9), some (68, false), 20, []⟩,
    ⟨some 70, .un .not (.t 69), some (68, false), 21, []⟩,
    ⟨some 71, .mv (.t 70), some (68, false), 22, []⟩,
    ⟨some 72, .mv (.t 11), some (71, true), 23, []⟩,
    ⟨some 73, .bin .neq .num (.t 72) (.c (.int .i64 21)), some (71, true), 24, []⟩,
    ⟨some 74, .pick (.t 71) (.t 73) (.c (.bool false)), some (68, false), 25, []⟩,
    ⟨some 75, .pick (.t 68) (.c (.bool true)) (.t 74), none, 26, []⟩])
  (.cond (.t 75) (.seq (.reg false [2, 3, 4] [⟨some 2, .mv (.c (.sl none 0 0 0)), none, 0, []⟩,
    ⟨some 3, .mv (.c (.sl none 0 0 0)), none, 0, []⟩,
    ⟨some 4, .mv (.c (.bool false)), none, 0, []⟩])
  (.ret))
  (.skip)))
  (.seq (.reg false [0, 5, 6, 7, 10, 76] [⟨some 76, .mv (.t 9), none, 0, []⟩])
  (.cond (.t 76) (.seq (.reg false [0, 5, 6, 7] [⟨some 77, .mv (.t 5), none, 0, []⟩,
    ⟨some 78, .mv (.t 10), none, 0, []⟩,
    ⟨some 79, .bslice 1 [.ptr none] 1 [(0, (.t 78))], none, 0, []⟩,
    ⟨some 80, .append 1 8 (.t 77) (.t 79), none, 0, []⟩,
    ⟨some 5, .mv (.t 80), none, 0, []⟩])
  (.reg false [0, 5, 6, 7] [⟨some 81, .mv (.t 6), none, 0, []⟩,
    ⟨some 82, .mv (.t 0), none, 0, []⟩,
    ⟨some 83, .mv (.t 7), none, 0, []⟩,
    ⟨some 84, .iad none 3 (.t 82) (.t 83), none, 0, []⟩,
    ⟨some 85, .load (some 3) (.t 84), none, 0, []⟩,
    ⟨some 86, .call (.f 82) [(.t 85)], none, 0, []⟩,
    ⟨some 87, .bslice 3 [.int .i64 0, .int .i64 0, .sl none 0 0 0] 1 [(0, (.t 86))], none, 0, []⟩,
    ⟨some 88, .append 3 40 (.t 81) (.t 87), none, 0, []⟩,
    ⟨some 6, .mv (.t 88), none, 0, []⟩]))
  (.skip))))))))))
  (.reg false [0, 5, 6, 7] [⟨some 21, .mv (.t 7), none, 0, []⟩,
    ⟨some 22, .bin .add .num (.t 21) (.c (.int .i64 1)), none, 0, []⟩,
    ⟨some 7, .mv (.t 22), none, 0, []⟩]))
/-- burin/burinlaw2.maps -/
def burinlaw2_maps : AFun := ⟨1, 91, true, [.t 2, .t 3, .t 4],
  .seq (.reg false [0] [⟨some 2, .mv (.c (.sl none 0 0 0)), none, 0, []⟩,
    ⟨some 3, .mv (.c (.sl none 0 0 0)), none, 0, []⟩,
    ⟨some 4, .mv (.c (.bool false)), none, 0, []⟩])
  (.seq (.reg false [0, 5] [⟨some 5, .mv (.c (.sl none 0 0 0)), none, 0, []⟩])
  (.seq (.reg false [0, 5, 6] [⟨some 6, .mv (.c (.sl none 0 0 0)), none, 0, []⟩])
  (.seq (.seq (.reg false [0, 5, 6, 7] [⟨some 7, .mv (.c (.int .i64 0)), none, 0, []⟩])
  (.block 0 (.loop [0, 5, 6, 7] burinlaw2_maps_l0)))
  (.seq (.reg false [2, 3, 4] [⟨some 89, .mv (.t 5), none, 0, []⟩,
    ⟨some 90, .mv (.t 6), none, 0, []⟩,
    ⟨some 2, .mv (.t 89), none, 0, []⟩,
    ⟨some 3, .mv (.t 90), none, 0, []⟩,
    ⟨some 4, .mv (.c (.bool true)), none, 0, []⟩])
  (.ret)))))⟩

/-- burin/burinlaw2.crop -/
def burinlaw2_crop : AFun := ⟨3, 91, true, [.t 6],
  .seq (.reg false [0, 4, 5] [⟨some 4, .box 3 (.t 1), none, 0, []⟩,
    ⟨some 5, .box 8 (.t 2), none, 0, []⟩,
    ⟨some 6, .mv (.c (.bool false)), none, 0, []⟩])
  (.seq (.seq (.reg false [0, 4, 5, 47] [⟨some 11, .iad (some 8) 1 (.t 5) (.c (.int .i64 2)), none, 0, []⟩,
    ⟨some 12, .load none (.t 11), none, 0, []⟩,
    ⟨some 13, .bin .gtr .num (.t 12) (.c (.int .i64 0)), none, 0, []⟩,
    ⟨some 14, .mv (.t 13), none, 0, []⟩,
    ⟨some 15, .iad (some 8) 1 (.t 5) (.c (.int .i64 3)), some (14, true), 0, []⟩,
    ⟨some 16, .load none (.t 15), some (14, true), 0, []⟩,
    ⟨some 17, .bin .gtr .num (.t 16) (.c (.int .i64 0)), some (14, true), 0, []⟩,
    ⟨some 18, .pick (.t 14) (.t 17) (.c (.bool false)), none, 0, []⟩,
    ⟨some 19, .mv (.t 18), none, 0, []⟩,
    ⟨some 20, .iad (some 8) 1 (.t 5) (.c (.int .i64 2)), some (19, true), 0, []⟩,
    ⟨some 21, .load none (.t 20), some (19, true), 0, []⟩,
    ⟨some 22, .bin .leq .num (.t 21) (.c (.int .i64 1048576)), some (19, true), 0, []⟩,
    ⟨some 23, .pick (.t 19) (.t 22) (.c (.bool false)), none, 0, []⟩,
    ⟨some 24, .mv (.t 23), none, 0, []⟩,
    ⟨some 25, .iad (some 8) 1 (.t 5) (.c (.int .i64 3)), some (24, true), 0, []⟩,
    ⟨some 26, .load none (.t 25), some (24, true), 0, []⟩,
    ⟨some 27, .bin .leq .num (.t 26) (.c (.int .i64 1048576)), some (24, true), 0, []⟩,
    ⟨some 28, .pick (.t 24) (.t 27) (.c (.bool false)), none, 0, []⟩,
    ⟨some 29, .mv (.t 28), none, 0, []⟩,
    ⟨some 30, .iad (some 8) 1 (.t 5) (.c (.int .i64 2)), some (29, true), 0, []⟩,
    ⟨some 31, .load none (.t 30), some (29, true), 0, []⟩,
    ⟨some 32, .iad (some 8) 1 (.t 5) (.c (.int .i64 3)), some (29, true), 0, []⟩,
    ⟨some 33, .load none (.t 32), some (29, true), 0, []⟩,
    ⟨some 34, .call (.f 74) [(.t 31), (.t 33)], some (29, true), 0, []⟩,
    ⟨some 35, .pick (.t 29) (.t 34) (.c (.bool false)), none, 0, []⟩,
    ⟨some 36, .mv (.t 35), none, 0, []⟩,
    ⟨some 37, .iad (some 8) 1 (.t 5) (.c (.int .i64 2)), some (36, true), 0, []⟩,
    ⟨some 38, .load none (.t 37), some (36, true), 0, []⟩,
    ⟨some 39, .iad (some 8) 1 (.t 5) (.c (.int .i64 3)), some (36, true), 0, []⟩,
    ⟨some 40, .load none (.t 39), some (36, true), 0, []⟩,
    ⟨some 41, .bin .mul .num (.t 38) (.t 40), some (36, true), 0, []⟩,
    ⟨some 42, .iad (some 8) 1 (.t 5) (.c (.int .i64 3)), some (36, true), 0, []⟩,
    ⟨some 43, .load none (.t 42), some (36, true), 0, []⟩,
    ⟨some 44, .bin .mul .num (.c (.int .i64 64)) (.t 43), some (36, true), 0, []⟩,
    ⟨some 45, .bin .add .num (.t 41) (.t 44), some (36, true), 0, []⟩,
    ⟨some 46, .bin .gtr .num (.t 45) (.c (.int .i64 60000)), some (36, true), 0, []⟩,
    ⟨some 47, .pick (.t 36) (.t 46) (.c (.bool false)), none, 0, []⟩])
  (.cond (.t 47) (.seq (.reg false [6] [⟨some 6, .mv (.c (.bool true)), none, 0, []⟩])
  (.ret))
  (.skip)))
  (.seq (.reg false [4, 5, 7, 8] [⟨some 49, .mv (.t 0), none, 0, []⟩,
    ⟨some 50, .iad (some 8) 1 (.t 5) (.c (.int .i64 0)), none, 0, []⟩,
    ⟨some 51, .load none (.t 50), none, 0, []⟩,
    ⟨some 52, .iad (some 8) 1 (.t 5) (.c (.int .i64 1)), none, 0, []⟩,
    ⟨some 53, .load none (.t 52), none, 0, []⟩,
    ⟨some 54, .iad (some 8) 1 (.t 5) (.c (.int .i64 2)), none, 0, []⟩,
    ⟨some 55, .load none (.t 54), none, 0, []⟩,
    ⟨some 56, .iad (some 8) 1 (.t 5) (.c (.int .i64 3)), none, 0, []⟩,
    ⟨some 57, .load none (.t 56), none, 0, []⟩,
    ⟨some 58, .call (.f 65) [(.t 49), (.t 51), (.t 53), (.t 55), (.t 57)], none, 0, []⟩,
    ⟨some 48, .mv (.t 58), none, 0, []⟩,
    ⟨some 59, .ext 0 (.t 48), none, 0, []⟩,
    ⟨some 60, .ext 1 (.t 48), none, 0, []⟩,
    ⟨some 7, .mv (.t 59), none, 0, []⟩,
    ⟨some 8, .mv (.t 60), none, 0, []⟩])
  (.seq (.reg false [7, 8, 9, 10] [⟨some 62, .load (some 3) (.t 4), none, 0, []⟩,
    ⟨some 63, .iad (some 8) 1 (.t 5) (.c (.int .i64 0)), none, 0, []⟩,
    ⟨some 64, .load none (.t 63), none, 0, []⟩,
    ⟨some 65, .iad (some 8) 1 (.t 5) (.c (.int .i64 1)), none, 0, []⟩,
    ⟨some 66, .load none (.t 65), none, 0, []⟩,
    ⟨some 67, .iad (some 8) 1 (.t 5) (.c (.int .i64 2)), none, 0, []⟩,
    ⟨some 68, .load none (.t 67), none, 0, []⟩,
    ⟨some 69, .iad (some 8) 1 (.t 5) (.c (.int .i64 3)), none, 0, []⟩,
    ⟨some 70, .load none (.t 69), none, 0, []⟩,
    ⟨some 71, .call (.f 91) [(.t 62), (.t 64), (.t 66), (.t 68), (.t 70)], none, 0, []⟩,
    ⟨some 61, .mv (.t 71), none, 0, []⟩,
    ⟨some 72, .ext 0 (.t 61), none, 0, []⟩,
    ⟨some 73, .ext 1 (.t 61), none, 0, []⟩,
    ⟨some 9, .alloc [.int .i64 0, .int .i64 0, .sl none 0 0 0], none, 0, []⟩,
    ⟨none, .store 3 (.t 9) (.t 72), none, 0, []⟩,
    ⟨some 10, .mv (.t 73), none, 0, []⟩])
  (.seq (.seq (.reg false [7, 8, 9, 83] [⟨some 74, .mv (.t 8), none, 0, []⟩,
    ⟨some 75, .mv (.t 10), none, 0, []⟩,
    ⟨some 76, .bin .neq .num (.t 74) (.t 75), none, 0, []⟩,
    ⟨some 77, .mv (.t 76), none, 0, []⟩,
    ⟨some 78, .mv (.t 8), some (77, false), 0, []⟩,
    ⟨some 79, .bin .eql .num (.t 78) (.c (.int .i64 0)), some (77, false), 0, []⟩,
    ⟨some 80, .mv (.t 7), some (77, false), 0, []⟩,
    ⟨some 81, .bin .neq .ptr (.t 80) (.c (.ptr none)), some (77, false), 0, []⟩,
    ⟨some 82, .bin .neq .bool (.t 79) (.t 81), some (77, false), 0, []⟩,
    ⟨some 83, .pick (.t 77) (.c (.bool true)) (.t 82), none, 0, []⟩])
  (.cond (.t 83) (.seq (.reg false [6] [⟨some 6, .mv (.c (.bool false)), none, 0, []⟩])
  (.ret))
  (.skip)))
  (.seq (.reg false [6] [⟨some 84, .mv (.t 8), none, 0, []⟩,
    ⟨some 85, .bin .neq .num (.t 84) (.c (.int .i64 0)), none, 0, []⟩,
    ⟨some 86, .mv (.t 85), none, 0, []⟩,
    ⟨some 87, .mv (.t 7), some (86, false), 0, []⟩,
    ⟨some 88, .load (some 3) (.t 9), some (86, false), 0, []⟩,
    ⟨some 89, .call (.f 101) [(.t 87), (.t 88)], some (86, false), 0, []⟩,
    ⟨some 90, .pick (.t 86) (.c (.bool true)) (.t 89), none, 0, []⟩,
    ⟨some 6, .mv (.t 90), none, 0, []⟩])
  (.ret))))))⟩

def burinlaw2_BitmapExact_l0 : Cd := .seq (.seq (.reg false [1, 3, 4, 6, 35] [⟨some 22, .mv (.t 6), none, 0, []⟩,
    ⟨some 23, .fad 1 (.t 1), none, 0, []⟩,
    ⟨some 24, .load none (.t 23), none, 0, []⟩,
    ⟨some 25, .len none (.t 24), none, 0, []⟩,
    ⟨some 26, .bin .lss .num (.t 22) (.t 25), none, 0, []⟩,
    ⟨some 27, .mv (.t 26), none, 0, []⟩,
    ⟨some 28, .mv (.t 6), some (27, true), 0, []⟩,
    ⟨some 29, .bin .lss .num (.t 28) (.c (.int .i64 30)), some (27, true), 0, []⟩,
    ⟨some 30, .pick (.t 27) (.t 29) (.c (.bool false)), none, 0, []⟩,
    ⟨some 31, .mv (.t 30), none, 0, []⟩,
    ⟨some 32, .mv (.t 3), some (31, true), 0, []⟩,
    ⟨some 33, .len none (.t 32), some (31, true), 0, []⟩,
    ⟨some 34, .bin .gtr .num (.t 33) (.c (.int .i64 0)), some (31, true), 0, []⟩,
    ⟨some 35, .pick (.t 31) (.t 34) (.c (.bool false)), none, 0, []⟩])
  (.cond (.t 35) (.skip)
  (.exit 0)))
  (.seq (.block 1 (.seq (.reg false [1, 3, 4, 6, 7] [⟨some 38, .fad 1 (.t 1), none, 0, []⟩,
    ⟨some 39, .load none (.t 38), none, 0, []⟩,
    ⟨some 40, .mv (.t 6), none, 0, []⟩,
    ⟨some 41, .iad none 11 (.t 39) (.t 40), none, 0, []⟩,
    ⟨some 42, .load (some 11) (.t 41), none, 0, []⟩,
    ⟨some 7, .alloc [.int .i64 0, .int .i64 0, .int .i64 0, .int .i64 0, .int .i64 0, .int .i64 0, .int .i64 0, .int .i64 0, .int .i64 0, .int .i64 0, .int .i64 0], none, 0, []⟩,
    ⟨none, .store 11 (.t 7) (.t 42), none, 0, []⟩])
  (.seq (.reg false [1, 3, 4, 6, 7, 8] [⟨some 43, .fad 1 (.t 7), none, 0, []⟩,
    ⟨some 44, .load none (.t 43), none, 0, []⟩,
    ⟨some 45, .mv (.t 3), none, 0, []⟩,
    ⟨some 46, .len none (.t 45), none, 0, []⟩,
    ⟨some 47, .call (.f 29) [(.t 44), (.t 46)], none, 0, []⟩,
    ⟨some 8, .mv (.t 47), none, 0, []⟩])
  (.seq (.reg false [1, 3, 4, 6, 7, 8, 9] [⟨some 48, .fad 2 (.t 7), none, 0, []⟩,
    ⟨some 49, .load none (.t 48), none, 0, []⟩,
    ⟨some 50, .mv (.t 3), none, 0, []⟩,
    ⟨some 51, .len none (.t 50), none, 0, []⟩,
    ⟨some 52, .call (.f 29) [(.t 49), (.t 51)], none, 0, []⟩,
    ⟨some 9, .mv (.t 52), none, 0, []⟩])
  (.seq (.reg false [1, 3, 4, 6, 7, 8, 9, 10] [⟨some 53, .fad 3 (.t 7), none, 0, []⟩,
    ⟨some 54, .load (some 8) (.t 53), none, 0, []⟩,
    ⟨some 10, .alloc [.int .i64 0, .int .i64 0, .int .i64 0, .int .i64 0, .int .i64 0, .int .i64 0, .int .i64 0, .int .i64 0], none, 0, []⟩,
    ⟨none, .store 8 (.t 10) (.t 54), none, 0, []⟩])
  (.seq (.reg false [1, 3, 4, 6, 7, 8, 9, 10, 11, 12] [⟨some 11, .mv (.c (.int .i64 0)), none, 0, []⟩,
    ⟨some 12, .mv (.c (.int .i64 0)), none, 0, []⟩])
  (.seq (.seq (.reg false [1, 3, 4, 6, 8, 9, 10, 11, 12, 56] [⟨some 55, .fad 0 (.t 7), none, 0, []⟩,
    ⟨some 56, .load none (.t 55), none, 0, []⟩])
  (.block 2 (.seq (.reg false [1, 3, 4, 6, 8, 9, 10, 11, 12, 56, 68] [⟨some 69, .bin .eql .num (.t 56) (.c (.int .i64 0)), none, 0, []⟩,
    ⟨some 68, .mv (.t 69), none, 0, []⟩])
  (.cond (.t 68) (.seq (.reg true [1, 3, 4, 6, 8, 9, 10, 11] [⟨some 70, .mv (.t 3), none, 0, []⟩,
    ⟨some 71, .mv (.t 9), none, 1, []⟩,
    ⟨some 72, .iad none 1 (.t 70) (.t 71), none, 2, []⟩,
    ⟨some 73, .load none (.t 72), none, 3, []⟩,
    ⟨some 74, .iad (some 8) 1 (.t 10) (.c (.int .i64 0)), none, 4, []⟩,
    ⟨some 75, .load none (.t 74), none, 5, []⟩,
    ⟨some 76, .iad (some 8) 1 (.t 10) (.c (.int .i64 1)), none, 6, []⟩,
    ⟨some 77, .load none (.t 76), none, 7, []⟩,
    ⟨some 78, .iad (some 8) 1 (.t 10) (.c (.int .i64 2)), none, 8, []⟩,
    ⟨some 79, .load none (.t 78), none, 9, []⟩,
    ⟨some 80, .call (.f 50) [(.t 73), (.t 75), (.t 77), (.t 79)], none, 10, []⟩,
    ⟨some 11, .mv (.t 80), none, 11, []⟩])
  (.reg true [1, 3, 4, 6, 8, 9, 10, 11, 12] [⟨some 81, .mv (.t 4), none, 0, []⟩,
    ⟨some 82, .mv (.t 9), none, 1, []⟩,
    ⟨some 83, .iad none 3 (.t 81) (.t 82), none, 2, []⟩,
    ⟨some 84, .load (some 3) (.t 83), none, 3, []⟩,
    ⟨some 85, .iad (some 8) 1 (.t 10) (.c (.int .i64 0)), none, 4, []⟩,
    ⟨some 86, .load none (.t 85), none, 5, []⟩,
    ⟨some 87, .iad (some 8) 1 (.t 10) (.c (.int .i64 1)), none, 6, []⟩,
    ⟨some 88, .load none (.t 87), none, 7, []⟩,
    ⟨some 89, .iad (some 8) 1 (.t 10) (.c (.int .i64 2)), none, 8, []⟩,
    ⟨some 90, .load none (.t 89), none, 9, []⟩,
    ⟨some 91, .call (.f 85) [(.t 84), (.t 86), (.t 88), (.t 90)], none, 10, []⟩,
    ⟨some 12, .mv (.t 91), none, 11, []⟩]))
  (.seq (.reg false [1, 3, 4, 6, 8, 9, 10, 11, 12, 56, 92] [⟨some 93, .bin .eql .num (.t 56) (.c (.int .i64 1)), none, 0, []⟩,
    ⟨some 92, .mv (.t 93), none, 0, []⟩])
  (.cond (.t 92) (.seq (.reg true [1, 3, 4, 6, 8, 9, 10, 11] [⟨some 94, .mv (.t 3), none, 0, []⟩,
    ⟨some 95, .mv (.t 9), none, 1, []⟩,
    ⟨some 96, .iad none 1 (.t 94) (.t 95), none, 2, []⟩,
    ⟨some 97, .load none (.t 96), none, 3, []⟩,
    ⟨some 98, .iad (some 8) 1 (.t 10) (.c (.int .i64 0)), none, 4, []⟩,
    ⟨some 99, .load none (.t 98), none, 5, []⟩,
    ⟨some 100, .iad (some 8) 1 (.t 10) (.c (.int .i64 1)), none, 6, []⟩,
    ⟨some 101, .load none (.t 100), none, 7, []⟩,
    ⟨some 102, .iad (some 8) 1 (.t 10) (.c (.int .i64 2)), none, 8, []⟩,
    ⟨some 103, .load none (.t 102), none, 9, []⟩,
    ⟨some 104, .iad (some 8) 1 (.t 10) (.c (.int .i64 3)), none, 10, []⟩,
    ⟨some 105, .load none (.t 104), none, 11, []⟩,
    ⟨some 106, .iad (some 8) 1 (.t 10) (.c (.int .i64 4)), none, 12, []⟩,
    ⟨some 107, .load none (.t 106), none, 13, []⟩,
    ⟨some 108, .call (.f 56) [(.t 97), (.t 99), (.t 101), (.t 103), (.t 105), (.t 107)], none, 14, []⟩,
    ⟨some 11, .mv (.t 108), none, 15, []⟩])
  (.reg true [1, 3, 4, 6, 8, 9, 10, 11, 12] [⟨some 109, .mv (.t 4), none, 0, []⟩,
    ⟨some 110, .mv (.t 9), none, 1, []⟩,
    ⟨some 111, .iad none 3 (.t 109) (.t 110), none, 2, []⟩,
    ⟨some 112, .load (some 3) (.t 111), none, 3, []⟩,
    ⟨some 113, .iad (some 8) 1 (.t 10) (.c (.int .i64 0)), none, 4, []⟩,
    ⟨some 114, .load none (.t 113), none, 5, []⟩,
    ⟨some 115, .iad (some 8) 1 (.t 10) (.c (.int .i64 1)), none, 6, []⟩,
    ⟨some 116, .load none (.t 115), none, 7, []⟩,
    ⟨some 117, .iad (some 8) 1 (.t 10) (.c (.int .i64 2)), none, 8, []⟩,
    ⟨some 118, .load none (.t 117), none, 9, []⟩,
    ⟨some 119, .iad (some 8) 1 (.t 10) (.c (.int .i64 3)), none, 10, []⟩,
    ⟨some 120, .load none (.t 119), none, 11, []⟩,
    ⟨some 121, .iad (some 8) 1 (.t 10) (.c (.int .i64 4)), none, 12, []⟩,
    ⟨some 122, .load none (.t 121), none, 13, []⟩,
    ⟨some 123, .call (.f 87) [(.t 112), (.t 114), (.t 116), (.t 118), (.t 120), (.t 122)], none, 14, []⟩,
    ⟨some 12, .mv (.t 123), none, 15, []⟩]))
  (.seq (.reg false [1, 3, 4, 6, 8, 9, 10, 11, 12, 56, 124] [⟨some 125, .bin .eql .num (.t 56) (.c (.int .i64 2)), none, 0, []⟩,
    ⟨some 124, .mv (.t 125), none, 0, []⟩])
  (.cond (.t 124) (.seq (.reg true [1, 3, 4, 6, 8, 9, 10, 11] [⟨some 126, .mv (.t 3), none, 0, []⟩,
    ⟨some 127, .mv (.t 9), none, 1, []⟩,
    ⟨some 128, .iad none 1 (.t 126) (.t 127), none, 2, []⟩,
    ⟨some 129, .load none (.t 128), none, 3, []⟩,
    ⟨some 130, .mv (.t 3), none, 4, []⟩,
    ⟨some 131, .mv (.t 8), none, 5, []⟩,
    ⟨some 132, .iad none 1 (.t 130) (.t 131), none, 6, []⟩,
    ⟨some 133, .load none (.t 132), none, 7, []⟩,
    ⟨some 134, .iad (some 8) 1 (.t 10) (.c (.int .i64 0)), none, 8, []⟩,
    ⟨some 135, .load none (.t 134), none, 9, []⟩,
    ⟨some 136, .iad (some 8) 1 (.t 10) (.c (.int .i64 1)), none, 10, []⟩,
    ⟨some 137, .load none (.t 136), none, 11, []⟩,
    ⟨some 138, .iad (some 8) 1 (.t 10) (.c (.int .i64 2)), none, 12, []⟩,
    ⟨some 139, .load none (.t 138), none, 13, []⟩,
    ⟨some 140, .iad (some 8) 1 (.t 10) (.c (.int .i64 3)), none, 14, []⟩,
    ⟨some 141, .load none (.t 140), none, 15, []⟩,
    ⟨some 142, .iad (some 8) 1 (.t 10) (.c (.int .i64 4)), none, 16, []⟩,
    ⟨some 143, .load none (.t 142), none, 17, []⟩,
    ⟨some 144, .iad (some 8) 1 (.t 10) (.c (.int .i64 5)), none, 18, []⟩,
    ⟨some 145, .load none (.t 144), none, 19, []⟩,
    ⟨some 146, .iad (some 8) 1 (.t 10) (.c (.int .i64 6)), none, 20, []⟩,
    ⟨some 147, .load none (.t 146), none, 21, []⟩,
    ⟨some 148, .call (.f 64) [(.t 129), (.t 133), (.t 135), (.t 137), (.t 139), (.t 141), (.t 143), (.t 145), (.t 147)], none, 22, []⟩,
    ⟨some 11, .mv (.t 148), none, 23, []⟩])
  (.reg true [1, 3, 4, 6, 8, 9, 10, 11, 12] [⟨some 149, .mv (.t 4), none, 0, []⟩,
    ⟨some 150, .mv (.t 9), none, 1, []⟩,
    ⟨some 151, .iad none 3 (.t 149) (.t 150), none, 2, []⟩,
    ⟨some 152, .load (some 3) (.t 151), none, 3, []⟩,
    ⟨some 153, .mv (.t 4), none, 4, []⟩,
    ⟨some 154, .mv (.t 8), none, 5, []⟩,
    ⟨some 155, .iad none 3 (.t 153) (.t 154), none, 6, []⟩,
    ⟨some 156, .load (some 3) (.t 155), none, 7, []⟩,
    ⟨some 157, .iad (some 8) 1 (.t 10) (.c (.int .i64 0)), none, 8, []⟩,
    ⟨some 158, .load none (.t 157), none, 9, []⟩,
    ⟨some 159, .iad (some 8) 1 (.t 10) (.c (.int .i64 1)), none, 10, []⟩,
    ⟨some 160, .load none (.t 159), none, 11, []⟩,
    ⟨some 161, .iad (some 8) 1 (.t 10) (.c (.int .i64 2)), none, 12, []⟩,
    ⟨some 162, .load none (.t 161), none, 13, []⟩,
    ⟨some 163, .iad (some 8) 1 (.t 10) (.c (.int .i64 3)), none, 14, []⟩,
    ⟨some 164, .load none (.t 163), none, 15, []⟩,
    ⟨some 165, .iad (some 8) 1 (.t 10) (.c (.int .i64 4)), none, 16, []⟩,
    ⟨some 166, .load none (.t 165), none, 17, []⟩,
    ⟨some 167, .iad (some 8) 1 (.t 10) (.c (.int .i64 5)), none, 18, []⟩,
    ⟨some 168, .load none (.t 167), none, 19, []⟩,
    ⟨some 169, .iad (some 8) 1 (.t 10) (.c (.int .i64 6)), none, 20, []⟩,
    ⟨some 170, .load none (.t 169), none, 21, []⟩,
    ⟨some 171, .call (.f 90) [(.t 152), (.t 156), (.t 158), (.t 160), (.t 162), (.t 164), (.t 166), (.t 168), (.t 170)], none, 22, []⟩,
    ⟨some 12, .mv (.t 171), none, 23, []⟩]))
  (.seq (.reg false [1, 3, 4, 6, 8, 9, 10, 11, 12, 56, 172] [⟨some 173, .bin .eql .num (.t 56) (.c (.int .i64 3)), none, 0, []⟩,
    ⟨some 172, .mv (.t 173), none, 0, []⟩])
  (.cond (.t 172) (.seq (.reg false [1, 3, 4, 6, 8, 9, 10, 11, 12] [⟨some 174, .mv (.t 3), none, 0, []⟩,
    ⟨some 175, .mv (.t 9), none, 0, []⟩,
    ⟨some 176, .iad none 1 (.t 174) (.t 175), none, 0, []⟩,
    ⟨some 177, .load none (.t 176), none, 0, []⟩,
    ⟨some 178, .call (.f 66) [(.t 177)], none, 0, []⟩])
  (.reg false [1, 3, 4, 6, 8, 9, 10, 11, 12] [⟨some 179, .mv (.t 4), none, 0, []⟩,
    ⟨some 180, .mv (.t 9), none, 0, []⟩,
    ⟨some 181, .iad none 3 (.t 179) (.t 180), none, 0, []⟩,
    ⟨some 182, .load (some 3) (.t 181), none, 0, []⟩,
    ⟨some 183, .call (.f 94) [(.t 182)], none, 0, []⟩]))
  (.seq (.reg false [1, 3, 4, 6, 8, 9, 10, 11, 12, 56, 184] [⟨some 185, .bin .eql .num (.t 56) (.c (.int .i64 4)), none, 0, []⟩,
    ⟨some 184, .mv (.t 185), none, 0, []⟩])
  (.cond (.t 184) (.seq (.reg false [1, 3, 4, 6, 8, 9, 10, 11, 12] [⟨some 186, .mv (.t 3), none, 0, []⟩,
    ⟨some 187, .mv (.t 9), none, 0, []⟩,
    ⟨some 188, .mv (.t 3), none, 0, []⟩,
    ⟨some 189, .mv (.t 8), none, 0, []⟩,
    ⟨some 190, .iad none 1 (.t 188) (.t 189), none, 0, []⟩,
    ⟨some 191, .load none (.t 190), none, 0, []⟩,
    ⟨some 192, .call (.f 69) [(.t 191)], none, 0, []⟩,
    ⟨some 193, .iad none 1 (.t 186) (.t 187), none, 0, []⟩,
    ⟨none, .store 1 (.t 193) (.t 192), none, 0, []⟩])
  (.reg false [1, 3, 4, 6, 8, 9, 10, 11, 12] [⟨some 194, .mv (.t 4), none, 0, []⟩,
    ⟨some 195, .mv (.t 9), none, 0, []⟩,
    ⟨some 196, .mv (.t 4), none, 0, []⟩,
    ⟨some 197, .mv (.t 8), none, 0, []⟩,
    ⟨some 198, .iad none 3 (.t 196) (.t 197), none, 0, []⟩,
    ⟨some 199, .load (some 3) (.t 198), none, 0, []⟩,
    ⟨some 200, .call (.f 92) [(.t 199)], none, 0, []⟩,
    ⟨some 201, .iad none 3 (.t 194) (.t 195), none, 0, []⟩,
    ⟨none, .store 3 (.t 201) (.t 200), none, 0, []⟩]))
  (.seq (.reg false [1, 3, 4, 6, 8, 9, 10, 11, 12, 202] [⟨some 203, .bin .eql .num (.t 56) (.c (.int .i64 5)), none, 0, []⟩,
    ⟨some 202, .mv (.t 203), none, 0, []⟩])
  (.cond (.t 202) (.seq (.reg false [1, 3, 4, 6, 8, 9, 10, 11, 12] [⟨some 204, .mv (.t 3), none, 0, []⟩,
    ⟨some 205, .mv (.t 9), none, 0, []⟩,
    ⟨some 206, .mv (.t 3), none, 0, []⟩,
    ⟨some 207, .mv (.t 8), none, 0, []⟩,
    ⟨some 208, .iad none 1 (.t 206) (.t 207), none, 0, []⟩,
    ⟨some 209, .load none (.t 208), none, 0, []⟩,
    ⟨some 210, .call (.f 71) [(.t 209)], none, 0, []⟩,
    ⟨some 211, .iad none 1 (.t 204) (.t 205), none, 0, []⟩,
    ⟨none, .store 1 (.t 211) (.t 210), none, 0, []⟩])
  (.reg false [1, 3, 4, 6, 8, 9, 10, 11, 12] [⟨some 212, .mv (.t 4), none, 0, []⟩,
    ⟨some 213, .mv (.t 9), none, 0, []⟩,
    ⟨some 214, .mv (.t 4), none, 0, []⟩,
    ⟨some 215, .mv (.t 8), none, 0, []⟩,
    ⟨some 216, .iad none 3 (.t 214) (.t 215), none, 0, []⟩,
    ⟨some 217, .load (some 3) (.t 216), none, 0, []⟩,
    ⟨some 218, .call (.f 93) [(.t 217)], none, 0, []⟩,
    ⟨some 219, .iad none 3 (.t 212) (.t 213), none, 0, []⟩,
    ⟨none, .store 3 (.t 219) (.t 218), none, 0, []⟩]))
  (.seq (.reg true [1, 3, 4, 6, 8, 9, 10, 11, 12, 67] [⟨some 57, .mv (.t 3), none, 0, []⟩,
    ⟨some 58, .mv (.t 8), none, 1, []⟩,
    ⟨some 59, .iad none 1 (.t 57) (.t 58), none, 2, []⟩,
    ⟨some 60, .load none (.t 59), none, 3, []⟩,
    ⟨some 61, .mv (.t 4), none, 4, []⟩,
    ⟨some 62, .mv (.t 8), none, 5, []⟩,
    ⟨some 63, .iad none 3 (.t 61) (.t 62), none, 6, []⟩,
    ⟨some 64, .load (some 3) (.t 63), none, 7, []⟩,
    ⟨some 65, .load (some 8) (.t 10), none, 8, []⟩,
    ⟨some 66, .call (.f 102) [(.t 60), (.t 64), (.t 65)], none, 9, []⟩,
    ⟨some 67, .un .not (.t 66), none, 10, []⟩])
  (.cond (.t 67) (.seq (.reg false [2] [⟨some 2, .mv (.c (.bool false)), none, 0, []⟩])
  (.ret))
  (.skip)))))))))))))))))
  (.seq (.reg true [1, 3, 4, 6, 280] [⟨some 220, .mv (.t 11), none, 0, []⟩,
    ⟨some 221, .mv (.t 12), none, 1, []⟩,
    ⟨some 222, .bin .neq .num (.t 220) (.t 221), none, 2, []⟩,
    ⟨some 223, .mv (.t 222), none, 3, []⟩,
    ⟨some 224, .mv (.t 3), some (223, false), 4, []⟩,
    ⟨some 225, .mv (.t 9), some (223, false), 5, []⟩,
    ⟨some 226, .iad none 1 (.t 224) (.t 225), some (223, false), 6, []⟩,
    ⟨some 227, .load none (.t 226), some (223, false), 7, []⟩,
    ⟨some 228, .mv (.t 4), some (223, false), 8, []⟩,
    ⟨some 229, .mv (.t 9), some (223, false), 9, []⟩,
    ⟨some 230, .iad none 3 (.t 228) (.t 229), some (223, false), 10, []⟩,
    ⟨some 231, .load (some 3) (.t 230), some (223, false), 11, []⟩,
    ⟨some 232, .call (.f 101) [(.t 227), (.t 231)], some (223, false), 12, []⟩,
    ⟨some 233, .un .not (.t 232), some (223, false), 13, []⟩,
    ⟨some 234, .pick (.t 223) (.c (.bool true)) (.t 233), none, 14, []⟩,
    ⟨some 235, .mv (.t 234), none, 15, []⟩,
    ⟨some 236, .mv (.t 3), some (235, false), 16, []⟩,
    ⟨some 237, .mv (.t 8), some (235, false), 17, []⟩,
    ⟨some 238, .iad none 1 (.t 236) (.t 237), some (235, false), 18, []⟩,
    ⟨some 239, .load none (.t 238), some (235, false), 19, []⟩,
    ⟨some 240, .mv (.t 4), some (235, false), 20, []⟩,
    ⟨some 241, .mv (.t 8), some (235, false), 21, []⟩,
    ⟨some 242, .iad none 3 (.t 240) (.t 241), some (235, false), 22, []⟩,
    ⟨some 243, .load (some 3) (.t 242), some (235, false), 23, []⟩,
    ⟨some 244, .call (.f 101) [(.t 239), (.t 243)], some (235, false), 24, []⟩,
    ⟨some 245, .un .not (.t 244), some (235, false), 25, []⟩,
    ⟨some 246, .pick (.t 235) (.c (.bool true)) (.t 245), none, 26, []⟩,
    ⟨some 247, .mv (.t 246), none, 27, []⟩,
    ⟨some 248, .mv (.t 3), some (247, false), 28, []⟩,
    ⟨some 249, .mv (.t 9), some (247, false), 29, []⟩,
    ⟨some 250, .iad none 1 (.t 248) (.t 249), some (247, false), 30, []⟩,
    ⟨some 251, .load none (.t 250), some (247, false), 31, []⟩,
    ⟨some 252, .iad (some 8) 1 (.t 10) (.c (.int .i64 0)), some (247, false), 32, []⟩,
    ⟨some 253, .load none (.t 252), some (247, false), 33, []⟩,
    ⟨some 254, .iad (some 8) 1 (.t 10) (.c (.int .i64 1)), some (247, false), 34, []⟩,
    ⟨some 255, .load none (.t 254), some (247, false), 35, []⟩,
    ⟨some 257, .mv (.t 4), some (247, false), 37, []⟩,
    ⟨some 258, .mv (.t 9), some (247, false), 38, []⟩,
    ⟨some 259, .iad none 3 (.t 257) (.t 258), some (247, false), 39, []⟩,
    ⟨some 260, .load (some 3) (.t 259), some (247, false), 40, []⟩,
    ⟨some 261, .iad (some 8) 1 (.t 10) (.c (.int .i64 0)), some (247, false), 41, []⟩,
    ⟨some 262, .load none (.t 261), some (247, false), 42, []⟩,
    ⟨some 263, .iad (some 8) 1 (.t 10) (.c (.int .i64 1)), some (247, false), 43, []⟩,
    ⟨some 264, .load none (.t 263), some (247, false), 44, []⟩,
    ⟨some 256, .call (.f 48) [(.t 251), (.t 253), (.t 255)], some (247, false), 36, [40, 42, 44]⟩,
    ⟨some 265, .call (.f 78) [(.t 260), (.t 262), (.t 264)], some (247, false), 45, []⟩,
    ⟨some 266, .bin .neq .num (.t 256) (.t 265), some (247, false), 46, []⟩,
    ⟨some 267, .pick (.t 247) (.c (.bool true)) (.t 266), none, 47, []⟩,
    ⟨some 268, .mv (.t 267), none, 48, []⟩,
    ⟨some 269, .mv (.t 3), some (268, false), 49, []⟩,
    ⟨some 270, .mv (.t 9), some (268, false), 50, []⟩,
    ⟨some 271, .iad none 1 (.t 269) (.t 270), some (268, false), 51, []⟩,
    ⟨some 272, .load none (.t 271), some (268, false), 52, []⟩,
    ⟨some 274, .mv (.t 4), some (268, false), 54, []⟩,
    ⟨some 275, .mv (.t 9), some (268, false), 55, []⟩,
    ⟨some 276, .iad none 3 (.t 274) (.t 275), some (268, false), 56, []⟩,
    ⟨some 277, .load (some 3) (.t 276), some (268, false), 57, []⟩,
    ⟨some 273, .call (.f 52) [(.t 272)], some (268, false), 53, [57]⟩,
    ⟨some 278, .call (.f 81) [(.t 277)], some (268, false), 58, []⟩,
    ⟨some 279, .bin .neq .num (.t 273) (.t 278), some (268, false), 59, []⟩,
    ⟨some 280, .pick (.t 268) (.c (.bool true)) (.t 279), none, 60, []⟩])
  (.cond (.t 280) (.seq (.reg false [2] [⟨some 2, .mv (.c (.bool false)), none, 0, []⟩])
  (.ret))
  (.skip))))))))))
  (.reg false [1, 3, 4, 6] [⟨some 36, .mv (.t 6), none, 0, []⟩,
    ⟨some 37, .bin .add .num (.t 36) (.c (.int .i64 1)), none, 0, []⟩,
    ⟨some 6, .mv (.t 37), none, 0, []⟩]))
/-- burin/burinlaw2.BitmapExact -/
def burinlaw2_BitmapExact : AFun := ⟨1, 282, true, [.t 2],
  .seq (.reg false [1] [⟨some 1, .box 2 (.t 0), none, 0, []⟩,
    ⟨some 2, .mv (.c (.bool false)), none, 0, []⟩])
  (.seq (.reg false [1, 3, 4, 5] [⟨some 14, .fad 0 (.t 1), none, 0, []⟩,
    ⟨some 15, .load none (.t 14), none, 0, []⟩,
    ⟨some 16, .call (.f 100) [(.t 15)], none, 0, []⟩,
    ⟨some 13, .mv (.t 16), none, 0, []⟩,
    ⟨some 17, .ext 0 (.t 13), none, 0, []⟩,
    ⟨some 18, .ext 1 (.t 13), none, 0, []⟩,
    ⟨some 19, .ext 2 (.t 13), none, 0, []⟩,
    ⟨some 3, .mv (.t 17), none, 0, []⟩,
    ⟨some 4, .mv (.t 18), none, 0, []⟩,
    ⟨some 5, .mv (.t 19), none, 0, []⟩])
  (.seq (.seq (.reg false [1, 3, 4, 21] [⟨some 20, .mv (.t 5), none, 0, []⟩,
    ⟨some 21, .un .not (.t 20), none, 0, []⟩])
  (.cond (.t 21) (.seq (.reg false [2] [⟨some 2, .mv (.c (.bool false)), none, 0, []⟩])
  (.ret))
  (.skip)))
  (.seq (.seq (.reg false [1, 3, 4, 6] [⟨some 6, .mv (.c (.int .i64 0)), none, 0, []⟩])
  (.block 0 (.loop [1, 3, 4, 6] burinlaw2_BitmapExact_l0)))
  (.seq (.reg false [2] [⟨some 281, .call (.f 99) [], none, 0, []⟩,
    ⟨some 2, .mv (.t 281), none, 0, []⟩])
  (.ret)))))⟩

/-- A program that has them. -/
structure HasL2x (P : Prog) : Prop where
  h_burinlaw2_maps : P 100 = some burinlaw2_maps
  h_burinlaw2_crop : P 102 = some burinlaw2_crop
  h_burinlaw2_BitmapExact : P 103 = some burinlaw2_BitmapExact

end Go.Ab
