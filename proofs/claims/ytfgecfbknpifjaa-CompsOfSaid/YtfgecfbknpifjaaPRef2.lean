/- The texts of functions of the given program, for the abstract machine: written by wip/tools/gen.py out of Lean's print of the translation. Conditions: none; definitions alone. -/
import Derived.Test.YtfgecfbknpifjaaK1
set_option linter.all false
namespace Go.Ab
-- burinref2_Set: 85, parameters b x y bit; loops 
-- burinref2_span: 86, parameters at n most; loops 
-- burinref2_Fill: 87, parameters ? ? ? ? ? ?; loops burinref2_Fill_l0 [1 ?, 2 ?, 5 ?, 6 ?, 13 ?, 14 ?, 16 ?, 17 ?]; burinref2_Fill_l1 [1 ?, 2 ?, 5 ?, 6 ?, 13 ?, 14 ?, 16 ?, 17 ?, 18 ?]
-- burinref2_greater: 88, parameters a b; loops 
-- burinref2_lesser: 89, parameters a b; loops 
-- burinref2_Blit: 90, parameters ? ? ? ? ? ? ? ? ?; loops burinref2_Blit_l0 [2 ?, 3 ?, 6 ?, 7 ?, 8 ?, 9 ?, 19 ?, 20 ?, 21 ?, 22 ?, 23 ?, 25 ?, 27 ?, 28 ?]; burinref2_Blit_l1 [2 ?, 3 ?, 6 ?, 7 ?, 8 ?, 9 ?, 19 ?, 20 ?, 21 ?, 22 ?, 23 ?, 25 ?, 27 ?, 28 ?, 29 ?]
-- burinref2_Crop: 91, parameters ? ? ? ? ?; loops burinref2_Crop_l0 [1 ?, 2 ?, 5 ?, 10 ?, 12 ?, 13 ?, 14 ?, 16 ?, 17 ?]; burinref2_Crop_l1 [1 ?, 2 ?, 5 ?, 10 ?, 12 ?, 13 ?, 14 ?, 16 ?, 17 ?, 18 ?]
-- burinref2_Mirror: 92, parameters b; loops burinref2_Mirror_l0 [1 b, 2 , 3 out, 4 y]; burinref2_Mirror_l1 [1 b, 2 , 3 out, 4 y, 5 x]
-- burinref2_Turn: 93, parameters b; loops burinref2_Turn_l0 [1 b, 2 , 3 out, 4 y]; burinref2_Turn_l1 [1 b, 2 , 3 out, 4 y, 5 x]
-- burinref2_Invert: 94, parameters b; loops burinref2_Invert_l0 [1 b, 2 y]; burinref2_Invert_l1 [1 b, 2 y, 3 x]

/-- burin/burinref2.Set -/
def burinref2_Set : AFun := ⟨4, 38, true, [.t 8],
  .seq (.reg false [1, 2, 3, 4] [⟨some 4, .box 3 (.t 0), none, 0, []⟩,
    ⟨some 8, .mv (.c (.int .i64 0)), none, 0, []⟩])
  (.seq (.seq (.reg false [1, 2, 3, 4, 26] [⟨some 9, .mv (.t 1), none, 0, []⟩,
    ⟨some 10, .bin .lss .num (.t 9) (.c (.int .i64 0)), none, 0, []⟩,
    ⟨some 11, .mv (.t 10), none, 0, []⟩,
    ⟨some 12, .mv (.t 2), some (11, false), 0, []⟩,
    ⟨some 13, .bin .lss .num (.t 12) (.c (.int .i64 0)), some (11, false), 0, []⟩,
    ⟨some 14, .pick (.t 11) (.c (.bool true)) (.t 13), none, 0, []⟩,
    ⟨some 15, .mv (.t 14), none, 0, []⟩,
    ⟨some 16, .mv (.t 1), some (15, false), 0, []⟩,
    ⟨some 17, .fad 0 (.t 4), some (15, false), 0, []⟩,
    ⟨some 18, .load none (.t 17), some (15, false), 0, []⟩,
    ⟨some 19, .bin .geq .num (.t 16) (.t 18), some (15, false), 0, []⟩,
    ⟨some 20, .pick (.t 15) (.c (.bool true)) (.t 19), none, 0, []⟩,
    ⟨some 21, .mv (.t 20), none, 0, []⟩,
    ⟨some 22, .mv (.t 2), some (21, false), 0, []⟩,
    ⟨some 23, .fad 1 (.t 4), some (21, false), 0, []⟩,
    ⟨some 24, .load none (.t 23), some (21, false), 0, []⟩,
    ⟨some 25, .bin .geq .num (.t 22) (.t 24), some (21, false), 0, []⟩,
    ⟨some 26, .pick (.t 21) (.c (.bool true)) (.t 25), none, 0, []⟩])
  (.cond (.t 26) (.seq (.reg false [8] [⟨some 8, .mv (.c (.int .i64 22)), none, 0, []⟩])
  (.ret))
  (.skip)))
  (.seq (.seq (.reg false [1, 2, 3, 4, 32] [⟨some 27, .mv (.t 3), none, 0, []⟩,
    ⟨some 28, .bin .neq .num (.t 27) (.c (.int .i64 0)), none, 0, []⟩,
    ⟨some 29, .mv (.t 28), none, 0, []⟩,
    ⟨some 30, .mv (.t 3), some (29, true), 0, []⟩,
    ⟨some 31, .bin .neq .num (.t 30) (.c (.int .i64 1)), some (29, true), 0, []⟩,
    ⟨some 32, .pick (.t 29) (.t 31) (.c (.bool false)), none, 0, []⟩])
  (.cond (.t 32) (.seq (.reg false [8] [⟨some 8, .mv (.c (.int .i64 23)), none, 0, []⟩])
  (.ret))
  (.skip)))
  (.seq (.reg false [] [⟨some 33, .load (some 3) (.t 4), none, 0, []⟩,
    ⟨some 34, .mv (.t 1), none, 0, []⟩,
    ⟨some 35, .mv (.t 2), none, 0, []⟩,
    ⟨some 36, .mv (.t 3), none, 0, []⟩,
    ⟨some 37, .call (.f 79) [(.t 33), (.t 34), (.t 35), (.t 36)], none, 0, []⟩])
  (.seq (.reg false [8] [⟨some 8, .mv (.c (.int .i64 0)), none, 0, []⟩])
  (.ret)))))⟩

/-- burin/burinref2.span -/
def burinref2_span : AFun := ⟨3, 52, true, [.t 6, .t 7],
  .seq (.reg false [0, 1, 2] [⟨some 6, .mv (.c (.int .i64 0)), none, 0, []⟩,
    ⟨some 7, .mv (.c (.int .i64 0)), none, 0, []⟩])
  (.seq (.reg false [0, 1, 2, 8] [⟨some 8, .mv (.c (.int .i64 0)), none, 0, []⟩])
  (.seq (.seq (.reg false [0, 1, 2, 8, 11] [⟨some 10, .mv (.t 0), none, 0, []⟩,
    ⟨some 11, .bin .lss .num (.t 10) (.c (.int .i64 0)), none, 0, []⟩])
  (.cond (.t 11) (.seq (.seq (.reg false [0, 1, 2, 19] [⟨some 12, .mv (.t 0), none, 0, []⟩,
    ⟨some 13, .bin .eql .num (.t 12) (.c (.int .i64 (-9223372036854775808))), none, 0, []⟩,
    ⟨some 14, .mv (.t 13), none, 0, []⟩,
    ⟨some 15, .mv (.t 0), some (14, false), 0, []⟩,
    ⟨some 16, .un .neg (.t 15), some (14, false), 0, []⟩,
    ⟨some 17, .mv (.t 1), some (14, false), 0, []⟩,
    ⟨some 18, .bin .geq .num (.t 16) (.t 17), some (14, false), 0, []⟩,
    ⟨some 19, .pick (.t 14) (.c (.bool true)) (.t 18), none, 0, []⟩])
  (.cond (.t 19) (.seq (.reg false [6, 7] [⟨some 6, .mv (.c (.int .i64 0)), none, 0, []⟩,
    ⟨some 7, .mv (.c (.int .i64 0)), none, 0, []⟩])
  (.ret))
  (.skip)))
  (.reg false [0, 1, 2, 8] [⟨some 20, .mv (.t 0), none, 0, []⟩,
    ⟨some 21, .un .neg (.t 20), none, 0, []⟩,
    ⟨some 8, .mv (.t 21), none, 0, []⟩]))
  (.skip)))
  (.seq (.seq (.reg false [0, 1, 2, 8, 24] [⟨some 22, .mv (.t 0), none, 0, []⟩,
    ⟨some 23, .mv (.t 2), none, 0, []⟩,
    ⟨some 24, .bin .geq .num (.t 22) (.t 23), none, 0, []⟩])
  (.cond (.t 24) (.seq (.reg false [6, 7] [⟨some 6, .mv (.c (.int .i64 0)), none, 0, []⟩,
    ⟨some 7, .mv (.c (.int .i64 0)), none, 0, []⟩])
  (.ret))
  (.skip)))
  (.seq (.reg false [0, 1, 2, 8, 9] [⟨some 25, .mv (.t 1), none, 0, []⟩,
    ⟨some 9, .mv (.t 25), none, 0, []⟩])
  (.seq (.seq (.reg false [0, 1, 2, 8, 9, 34] [⟨some 26, .mv (.t 0), none, 0, []⟩,
    ⟨some 27, .bin .geq .num (.t 26) (.c (.int .i64 0)), none, 0, []⟩,
    ⟨some 28, .mv (.t 27), none, 0, []⟩,
    ⟨some 29, .mv (.t 1), some (28, true), 0, []⟩,
    ⟨some 30, .mv (.t 2), some (28, true), 0, []⟩,
    ⟨some 31, .mv (.t 0), some (28, true), 0, []⟩,
    ⟨some 32, .bin .sub .num (.t 30) (.t 31), some (28, true), 0, []⟩,
    ⟨some 33, .bin .gtr .num (.t 29) (.t 32), some (28, true), 0, []⟩,
    ⟨some 34, .pick (.t 28) (.t 33) (.c (.bool false)), none, 0, []⟩])
  (.cond (.t 34) (.reg false [0, 1, 2, 8, 9] [⟨some 35, .mv (.t 2), none, 0, []⟩,
    ⟨some 36, .mv (.t 0), none, 0, []⟩,
    ⟨some 37, .bin .sub .num (.t 35) (.t 36), none, 0, []⟩,
    ⟨some 9, .mv (.t 37), none, 0, []⟩])
  (.skip)))
  (.seq (.seq (.reg false [2, 8, 9, 46] [⟨some 38, .mv (.t 0), none, 0, []⟩,
    ⟨some 39, .bin .lss .num (.t 38) (.c (.int .i64 0)), none, 0, []⟩,
    ⟨some 40, .mv (.t 39), none, 0, []⟩,
    ⟨some 41, .mv (.t 1), some (40, true), 0, []⟩,
    ⟨some 42, .mv (.t 8), some (40, true), 0, []⟩,
    ⟨some 43, .bin .sub .num (.t 41) (.t 42), some (40, true), 0, []⟩,
    ⟨some 44, .mv (.t 2), some (40, true), 0, []⟩,
    ⟨some 45, .bin .gtr .num (.t 43) (.t 44), some (40, true), 0, []⟩,
    ⟨some 46, .pick (.t 40) (.t 45) (.c (.bool false)), none, 0, []⟩])
  (.cond (.t 46) (.reg false [8, 9] [⟨some 47, .mv (.t 8), none, 0, []⟩,
    ⟨some 48, .mv (.t 2), none, 0, []⟩,
    ⟨some 49, .bin .add .num (.t 47) (.t 48), none, 0, []⟩,
    ⟨some 9, .mv (.t 49), none, 0, []⟩])
  (.skip)))
  (.seq (.reg false [6, 7] [⟨some 50, .mv (.t 8), none, 0, []⟩,
    ⟨some 51, .mv (.t 9), none, 0, []⟩,
    ⟨some 6, .mv (.t 50), none, 0, []⟩,
    ⟨some 7, .mv (.t 51), none, 0, []⟩])
  (.ret))))))))⟩

def burinref2_Fill_l1 : Cd := .seq (.seq (.reg false [1, 2, 5, 6, 13, 14, 16, 17, 18, 56] [⟨some 54, .mv (.t 18), none, 0, []⟩,
    ⟨some 55, .mv (.t 14), none, 0, []⟩,
    ⟨some 56, .bin .lss .num (.t 54) (.t 55), none, 0, []⟩])
  (.cond (.t 56) (.skip)
  (.exit 2)))
  (.seq (.block 3 (.reg false [1, 2, 5, 6, 13, 14, 16, 17, 18] [⟨some 59, .load (some 3) (.t 6), none, 0, []⟩,
    ⟨some 60, .mv (.t 1), none, 0, []⟩,
    ⟨some 61, .mv (.t 18), none, 0, []⟩,
    ⟨some 62, .bin .add .num (.t 60) (.t 61), none, 0, []⟩,
    ⟨some 63, .mv (.t 2), none, 0, []⟩,
    ⟨some 64, .mv (.t 17), none, 0, []⟩,
    ⟨some 65, .bin .add .num (.t 63) (.t 64), none, 0, []⟩,
    ⟨some 66, .mv (.t 5), none, 0, []⟩,
    ⟨some 67, .call (.f 79) [(.t 59), (.t 62), (.t 65), (.t 66)], none, 0, []⟩]))
  (.reg false [1, 2, 5, 6, 13, 14, 16, 17, 18] [⟨some 57, .mv (.t 18), none, 0, []⟩,
    ⟨some 58, .bin .add .num (.t 57) (.c (.int .i64 1)), none, 0, []⟩,
    ⟨some 18, .mv (.t 58), none, 0, []⟩]))
def burinref2_Fill_l0 : Cd := .seq (.seq (.reg false [1, 2, 5, 6, 13, 14, 16, 17, 50] [⟨some 48, .mv (.t 17), none, 0, []⟩,
    ⟨some 49, .mv (.t 16), none, 0, []⟩,
    ⟨some 50, .bin .lss .num (.t 48) (.t 49), none, 0, []⟩])
  (.cond (.t 50) (.skip)
  (.exit 0)))
  (.seq (.block 1 (.seq (.reg false [1, 2, 5, 6, 13, 14, 16, 17, 18] [⟨some 53, .mv (.t 13), none, 0, []⟩,
    ⟨some 18, .mv (.t 53), none, 0, []⟩])
  (.block 2 (.loop [1, 2, 5, 6, 13, 14, 16, 17, 18] burinref2_Fill_l1))))
  (.reg false [1, 2, 5, 6, 13, 14, 16, 17] [⟨some 51, .mv (.t 17), none, 0, []⟩,
    ⟨some 52, .bin .add .num (.t 51) (.c (.int .i64 1)), none, 0, []⟩,
    ⟨some 17, .mv (.t 52), none, 0, []⟩]))
/-- burin/burinref2.Fill -/
def burinref2_Fill : AFun := ⟨6, 68, true, [.t 12],
  .seq (.reg false [1, 2, 3, 4, 5, 6] [⟨some 6, .box 3 (.t 0), none, 0, []⟩,
    ⟨some 12, .mv (.c (.int .i64 0)), none, 0, []⟩])
  (.seq (.seq (.reg false [1, 2, 3, 4, 5, 6, 24] [⟨some 19, .mv (.t 3), none, 0, []⟩,
    ⟨some 20, .bin .lss .num (.t 19) (.c (.int .i64 0)), none, 0, []⟩,
    ⟨some 21, .mv (.t 20), none, 0, []⟩,
    ⟨some 22, .mv (.t 4), some (21, false), 0, []⟩,
    ⟨some 23, .bin .lss .num (.t 22) (.c (.int .i64 0)), some (21, false), 0, []⟩,
    ⟨some 24, .pick (.t 21) (.c (.bool true)) (.t 23), none, 0, []⟩])
  (.cond (.t 24) (.seq (.reg false [12] [⟨some 12, .mv (.c (.int .i64 24)), none, 0, []⟩])
  (.ret))
  (.skip)))
  (.seq (.seq (.reg false [1, 2, 3, 4, 5, 6, 30] [⟨some 25, .mv (.t 5), none, 0, []⟩,
    ⟨some 26, .bin .neq .num (.t 25) (.c (.int .i64 0)), none, 0, []⟩,
    ⟨some 27, .mv (.t 26), none, 0, []⟩,
    ⟨some 28, .mv (.t 5), some (27, true), 0, []⟩,
    ⟨some 29, .bin .neq .num (.t 28) (.c (.int .i64 1)), some (27, true), 0, []⟩,
    ⟨some 30, .pick (.t 27) (.t 29) (.c (.bool false)), none, 0, []⟩])
  (.cond (.t 30) (.seq (.reg false [12] [⟨some 12, .mv (.c (.int .i64 23)), none, 0, []⟩])
  (.ret))
  (.skip)))
  (.seq (.reg false [1, 2, 4, 5, 6, 13, 14] [⟨some 32, .mv (.t 1), none, 0, []⟩,
    ⟨some 33, .mv (.t 3), none, 0, []⟩,
    ⟨some 34, .fad 0 (.t 6), none, 0, []⟩,
    ⟨some 35, .load none (.t 34), none, 0, []⟩,
    ⟨some 36, .call (.f 86) [(.t 32), (.t 33), (.t 35)], none, 0, []⟩,
    ⟨some 31, .mv (.t 36), none, 0, []⟩,
    ⟨some 37, .ext 0 (.t 31), none, 0, []⟩,
    ⟨some 38, .ext 1 (.t 31), none, 0, []⟩,
    ⟨some 13, .mv (.t 37), none, 0, []⟩,
    ⟨some 14, .mv (.t 38), none, 0, []⟩])
  (.seq (.reg false [1, 2, 5, 6, 13, 14, 15, 16] [⟨some 40, .mv (.t 2), none, 0, []⟩,
    ⟨some 41, .mv (.t 4), none, 0, []⟩,
    ⟨some 42, .fad 1 (.t 6), none, 0, []⟩,
    ⟨some 43, .load none (.t 42), none, 0, []⟩,
    ⟨some 44, .call (.f 86) [(.t 40), (.t 41), (.t 43)], none, 0, []⟩,
    ⟨some 39, .mv (.t 44), none, 0, []⟩,
    ⟨some 45, .ext 0 (.t 39), none, 0, []⟩,
    ⟨some 46, .ext 1 (.t 39), none, 0, []⟩,
    ⟨some 15, .mv (.t 45), none, 0, []⟩,
    ⟨some 16, .mv (.t 46), none, 0, []⟩])
  (.seq (.seq (.reg false [1, 2, 5, 6, 13, 14, 16, 17] [⟨some 47, .mv (.t 15), none, 0, []⟩,
    ⟨some 17, .mv (.t 47), none, 0, []⟩])
  (.block 0 (.loop [1, 2, 5, 6, 13, 14, 16, 17] burinref2_Fill_l0)))
  (.seq (.reg false [12] [⟨some 12, .mv (.c (.int .i64 0)), none, 0, []⟩])
  (.ret)))))))⟩

/-- burin/burinref2.greater -/
def burinref2_greater : AFun := ⟨2, 10, true, [.t 4],
  .seq (.reg false [0, 1] [⟨some 4, .mv (.c (.int .i64 0)), none, 0, []⟩])
  (.seq (.seq (.reg false [0, 1, 7] [⟨some 5, .mv (.t 0), none, 0, []⟩,
    ⟨some 6, .mv (.t 1), none, 0, []⟩,
    ⟨some 7, .bin .gtr .num (.t 5) (.t 6), none, 0, []⟩])
  (.cond (.t 7) (.seq (.reg false [4] [⟨some 8, .mv (.t 0), none, 0, []⟩,
    ⟨some 4, .mv (.t 8), none, 0, []⟩])
  (.ret))
  (.skip)))
  (.seq (.reg false [4] [⟨some 9, .mv (.t 1), none, 0, []⟩,
    ⟨some 4, .mv (.t 9), none, 0, []⟩])
  (.ret)))⟩

/-- burin/burinref2.lesser -/
def burinref2_lesser : AFun := ⟨2, 10, true, [.t 4],
  .seq (.reg false [0, 1] [⟨some 4, .mv (.c (.int .i64 0)), none, 0, []⟩])
  (.seq (.seq (.reg false [0, 1, 7] [⟨some 5, .mv (.t 0), none, 0, []⟩,
    ⟨some 6, .mv (.t 1), none, 0, []⟩,
    ⟨some 7, .bin .lss .num (.t 5) (.t 6), none, 0, []⟩])
  (.cond (.t 7) (.seq (.reg false [4] [⟨some 8, .mv (.t 0), none, 0, []⟩,
    ⟨some 4, .mv (.t 8), none, 0, []⟩])
  (.ret))
  (.skip)))
  (.seq (.reg false [4] [⟨some 9, .mv (.t 1), none, 0, []⟩,
    ⟨some 4, .mv (.t 9), none, 0, []⟩])
  (.ret)))⟩

def burinref2_Blit_l1 : Cd := .seq (.seq (.reg false [2, 3, 6, 7, 8, 9, 19, 20, 21, 22, 23, 25, 27, 28, 29, 93] [⟨some 89, .mv (.t 29), none, 0, []⟩,
    ⟨some 90, .mv (.t 21), none, 0, []⟩,
    ⟨some 91, .mv (.t 23), none, 0, []⟩,
    ⟨some 92, .call (.f 89) [(.t 90), (.t 91)], none, 0, []⟩,
    ⟨some 93, .bin .lss .num (.t 89) (.t 92), none, 0, []⟩])
  (.cond (.t 93) (.skip)
  (.exit 2)))
  (.seq (.block 3 (.reg true [2, 3, 6, 7, 8, 9, 19, 20, 21, 22, 23, 25, 27, 28, 29] [⟨some 96, .load (some 3) (.t 9), none, 0, []⟩,
    ⟨some 97, .mv (.t 6), none, 1, []⟩,
    ⟨some 98, .mv (.t 29), none, 2, []⟩,
    ⟨some 99, .bin .add .num (.t 97) (.t 98), none, 3, []⟩,
    ⟨some 100, .mv (.t 7), none, 4, []⟩,
    ⟨some 101, .mv (.t 28), none, 5, []⟩,
    ⟨some 102, .bin .add .num (.t 100) (.t 101), none, 6, []⟩,
    ⟨some 103, .mv (.t 8), none, 7, []⟩,
    ⟨some 104, .load (some 3) (.t 9), none, 8, []⟩,
    ⟨some 105, .mv (.t 6), none, 9, []⟩,
    ⟨some 106, .mv (.t 29), none, 10, []⟩,
    ⟨some 107, .bin .add .num (.t 105) (.t 106), none, 11, []⟩,
    ⟨some 108, .mv (.t 7), none, 12, []⟩,
    ⟨some 109, .mv (.t 28), none, 13, []⟩,
    ⟨some 110, .bin .add .num (.t 108) (.t 109), none, 14, []⟩,
    ⟨some 112, .load (some 3) (.t 19), none, 16, []⟩,
    ⟨some 113, .mv (.t 2), none, 17, []⟩,
    ⟨some 114, .mv (.t 29), none, 18, []⟩,
    ⟨some 115, .bin .add .num (.t 113) (.t 114), none, 19, []⟩,
    ⟨some 116, .mv (.t 3), none, 20, []⟩,
    ⟨some 117, .mv (.t 28), none, 21, []⟩,
    ⟨some 118, .bin .add .num (.t 116) (.t 117), none, 22, []⟩,
    ⟨some 111, .call (.f 78) [(.t 104), (.t 107), (.t 110)], none, 15, [0, 16]⟩,
    ⟨some 119, .call (.f 78) [(.t 112), (.t 115), (.t 118)], none, 23, [0]⟩,
    ⟨some 120, .call (.f 80) [(.t 103), (.t 111), (.t 119)], none, 24, [0]⟩,
    ⟨some 121, .call (.f 79) [(.t 96), (.t 99), (.t 102), (.t 120)], none, 25, []⟩]))
  (.reg false [2, 3, 6, 7, 8, 9, 19, 20, 21, 22, 23, 25, 27, 28, 29] [⟨some 94, .mv (.t 29), none, 0, []⟩,
    ⟨some 95, .bin .add .num (.t 94) (.c (.int .i64 1)), none, 0, []⟩,
    ⟨some 29, .mv (.t 95), none, 0, []⟩]))
def burinref2_Blit_l0 : Cd := .seq (.seq (.reg false [2, 3, 6, 7, 8, 9, 19, 20, 21, 22, 23, 25, 27, 28, 83] [⟨some 79, .mv (.t 28), none, 0, []⟩,
    ⟨some 80, .mv (.t 25), none, 0, []⟩,
    ⟨some 81, .mv (.t 27), none, 0, []⟩,
    ⟨some 82, .call (.f 89) [(.t 80), (.t 81)], none, 0, []⟩,
    ⟨some 83, .bin .lss .num (.t 79) (.t 82), none, 0, []⟩])
  (.cond (.t 83) (.skip)
  (.exit 0)))
  (.seq (.block 1 (.seq (.reg false [2, 3, 6, 7, 8, 9, 19, 20, 21, 22, 23, 25, 27, 28, 29] [⟨some 86, .mv (.t 20), none, 0, []⟩,
    ⟨some 87, .mv (.t 22), none, 0, []⟩,
    ⟨some 88, .call (.f 88) [(.t 86), (.t 87)], none, 0, []⟩,
    ⟨some 29, .mv (.t 88), none, 0, []⟩])
  (.block 2 (.loop [2, 3, 6, 7, 8, 9, 19, 20, 21, 22, 23, 25, 27, 28, 29] burinref2_Blit_l1))))
  (.reg false [2, 3, 6, 7, 8, 9, 19, 20, 21, 22, 23, 25, 27, 28] [⟨some 84, .mv (.t 28), none, 0, []⟩,
    ⟨some 85, .bin .add .num (.t 84) (.c (.int .i64 1)), none, 0, []⟩,
    ⟨some 28, .mv (.t 85), none, 0, []⟩]))
/-- burin/burinref2.Blit -/
def burinref2_Blit : AFun := ⟨9, 122, true, [.t 18],
  .seq (.reg false [2, 3, 4, 5, 6, 7, 8, 9, 10] [⟨some 9, .box 3 (.t 0), none, 0, []⟩,
    ⟨some 10, .box 3 (.t 1), none, 0, []⟩,
    ⟨some 18, .mv (.c (.int .i64 0)), none, 0, []⟩])
  (.seq (.seq (.reg false [2, 3, 4, 5, 6, 7, 8, 9, 10, 35] [⟨some 30, .mv (.t 4), none, 0, []⟩,
    ⟨some 31, .bin .lss .num (.t 30) (.c (.int .i64 0)), none, 0, []⟩,
    ⟨some 32, .mv (.t 31), none, 0, []⟩,
    ⟨some 33, .mv (.t 5), some (32, false), 0, []⟩,
    ⟨some 34, .bin .lss .num (.t 33) (.c (.int .i64 0)), some (32, false), 0, []⟩,
    ⟨some 35, .pick (.t 32) (.c (.bool true)) (.t 34), none, 0, []⟩])
  (.cond (.t 35) (.seq (.reg false [18] [⟨some 18, .mv (.c (.int .i64 24)), none, 0, []⟩])
  (.ret))
  (.skip)))
  (.seq (.seq (.reg false [2, 3, 4, 5, 6, 7, 8, 9, 10, 41] [⟨some 36, .mv (.t 8), none, 0, []⟩,
    ⟨some 37, .bin .lss .num (.t 36) (.c (.int .i64 0)), none, 0, []⟩,
    ⟨some 38, .mv (.t 37), none, 0, []⟩,
    ⟨some 39, .mv (.t 8), some (38, false), 0, []⟩,
    ⟨some 40, .bin .gtr .num (.t 39) (.c (.int .i64 4)), some (38, false), 0, []⟩,
    ⟨some 41, .pick (.t 38) (.c (.bool true)) (.t 40), none, 0, []⟩])
  (.cond (.t 41) (.seq (.reg false [18] [⟨some 18, .mv (.c (.int .i64 25)), none, 0, []⟩])
  (.ret))
  (.skip)))
  (.seq (.reg false [2, 3, 4, 5, 6, 7, 8, 9, 10, 19] [⟨some 42, .load (some 3) (.t 10), none, 0, []⟩,
    ⟨some 43, .call (.f 82) [(.t 42)], none, 0, []⟩,
    ⟨some 19, .alloc [.int .i64 0, .int .i64 0, .sl none 0 0 0], none, 0, []⟩,
    ⟨none, .store 3 (.t 19) (.t 43), none, 0, []⟩])
  (.seq (.reg false [2, 3, 4, 5, 6, 7, 8, 9, 10, 19, 20, 21] [⟨some 45, .mv (.t 2), none, 0, []⟩,
    ⟨some 46, .mv (.t 4), none, 0, []⟩,
    ⟨some 47, .fad 0 (.t 10), none, 0, []⟩,
    ⟨some 48, .load none (.t 47), none, 0, []⟩,
    ⟨some 49, .call (.f 86) [(.t 45), (.t 46), (.t 48)], none, 0, []⟩,
    ⟨some 44, .mv (.t 49), none, 0, []⟩,
    ⟨some 50, .ext 0 (.t 44), none, 0, []⟩,
    ⟨some 51, .ext 1 (.t 44), none, 0, []⟩,
    ⟨some 20, .mv (.t 50), none, 0, []⟩,
    ⟨some 21, .mv (.t 51), none, 0, []⟩])
  (.seq (.reg false [2, 3, 5, 6, 7, 8, 9, 10, 19, 20, 21, 22, 23] [⟨some 53, .mv (.t 6), none, 0, []⟩,
    ⟨some 54, .mv (.t 4), none, 0, []⟩,
    ⟨some 55, .fad 0 (.t 9), none, 0, []⟩,
    ⟨some 56, .load none (.t 55), none, 0, []⟩,
    ⟨some 57, .call (.f 86) [(.t 53), (.t 54), (.t 56)], none, 0, []⟩,
    ⟨some 52, .mv (.t 57), none, 0, []⟩,
    ⟨some 58, .ext 0 (.t 52), none, 0, []⟩,
    ⟨some 59, .ext 1 (.t 52), none, 0, []⟩,
    ⟨some 22, .mv (.t 58), none, 0, []⟩,
    ⟨some 23, .mv (.t 59), none, 0, []⟩])
  (.seq (.reg false [2, 3, 5, 6, 7, 8, 9, 19, 20, 21, 22, 23, 24, 25] [⟨some 61, .mv (.t 3), none, 0, []⟩,
    ⟨some 62, .mv (.t 5), none, 0, []⟩,
    ⟨some 63, .fad 1 (.t 10), none, 0, []⟩,
    ⟨some 64, .load none (.t 63), none, 0, []⟩,
    ⟨some 65, .call (.f 86) [(.t 61), (.t 62), (.t 64)], none, 0, []⟩,
    ⟨some 60, .mv (.t 65), none, 0, []⟩,
    ⟨some 66, .ext 0 (.t 60), none, 0, []⟩,
    ⟨some 67, .ext 1 (.t 60), none, 0, []⟩,
    ⟨some 24, .mv (.t 66), none, 0, []⟩,
    ⟨some 25, .mv (.t 67), none, 0, []⟩])
  (.seq (.reg false [2, 3, 6, 7, 8, 9, 19, 20, 21, 22, 23, 24, 25, 26, 27] [⟨some 69, .mv (.t 7), none, 0, []⟩,
    ⟨some 70, .mv (.t 5), none, 0, []⟩,
    ⟨some 71, .fad 1 (.t 9), none, 0, []⟩,
    ⟨some 72, .load none (.t 71), none, 0, []⟩,
    ⟨some 73, .call (.f 86) [(.t 69), (.t 70), (.t 72)], none, 0, []⟩,
    ⟨some 68, .mv (.t 73), none, 0, []⟩,
    ⟨some 74, .ext 0 (.t 68), none, 0, []⟩,
    ⟨some 75, .ext 1 (.t 68), none, 0, []⟩,
    ⟨some 26, .mv (.t 74), none, 0, []⟩,
    ⟨some 27, .mv (.t 75), none, 0, []⟩])
  (.seq (.seq (.reg false [2, 3, 6, 7, 8, 9, 19, 20, 21, 22, 23, 25, 27, 28] [⟨some 76, .mv (.t 24), none, 0, []⟩,
    ⟨some 77, .mv (.t 26), none, 0, []⟩,
    ⟨some 78, .call (.f 88) [(.t 76), (.t 77)], none, 0, []⟩,
    ⟨some 28, .mv (.t 78), none, 0, []⟩])
  (.block 0 (.loop [2, 3, 6, 7, 8, 9, 19, 20, 21, 22, 23, 25, 27, 28] burinref2_Blit_l0)))
  (.seq (.reg false [18] [⟨some 18, .mv (.c (.int .i64 0)), none, 0, []⟩])
  (.ret))))))))))⟩

def burinref2_Crop_l1 : Cd := .seq (.seq (.reg false [1, 2, 5, 10, 12, 13, 14, 16, 17, 18, 52] [⟨some 50, .mv (.t 18), none, 0, []⟩,
    ⟨some 51, .mv (.t 14), none, 0, []⟩,
    ⟨some 52, .bin .lss .num (.t 50) (.t 51), none, 0, []⟩])
  (.cond (.t 52) (.skip)
  (.exit 2)))
  (.seq (.block 3 (.reg true [1, 2, 5, 10, 12, 13, 14, 16, 17, 18] [⟨some 55, .load (some 3) (.t 12), none, 0, []⟩,
    ⟨some 56, .mv (.t 18), none, 1, []⟩,
    ⟨some 57, .mv (.t 17), none, 2, []⟩,
    ⟨some 58, .load (some 3) (.t 5), none, 3, []⟩,
    ⟨some 59, .mv (.t 1), none, 4, []⟩,
    ⟨some 60, .mv (.t 18), none, 5, []⟩,
    ⟨some 61, .bin .add .num (.t 59) (.t 60), none, 6, []⟩,
    ⟨some 62, .mv (.t 2), none, 7, []⟩,
    ⟨some 63, .mv (.t 17), none, 8, []⟩,
    ⟨some 64, .bin .add .num (.t 62) (.t 63), none, 9, []⟩,
    ⟨some 65, .call (.f 78) [(.t 58), (.t 61), (.t 64)], none, 10, [0]⟩,
    ⟨some 66, .call (.f 79) [(.t 55), (.t 56), (.t 57), (.t 65)], none, 11, []⟩]))
  (.reg false [1, 2, 5, 10, 12, 13, 14, 16, 17, 18] [⟨some 53, .mv (.t 18), none, 0, []⟩,
    ⟨some 54, .bin .add .num (.t 53) (.c (.int .i64 1)), none, 0, []⟩,
    ⟨some 18, .mv (.t 54), none, 0, []⟩]))
def burinref2_Crop_l0 : Cd := .seq (.seq (.reg false [1, 2, 5, 10, 12, 13, 14, 16, 17, 46] [⟨some 44, .mv (.t 17), none, 0, []⟩,
    ⟨some 45, .mv (.t 16), none, 0, []⟩,
    ⟨some 46, .bin .lss .num (.t 44) (.t 45), none, 0, []⟩])
  (.cond (.t 46) (.skip)
  (.exit 0)))
  (.seq (.block 1 (.seq (.reg false [1, 2, 5, 10, 12, 13, 14, 16, 17, 18] [⟨some 49, .mv (.t 13), none, 0, []⟩,
    ⟨some 18, .mv (.t 49), none, 0, []⟩])
  (.block 2 (.loop [1, 2, 5, 10, 12, 13, 14, 16, 17, 18] burinref2_Crop_l1))))
  (.reg false [1, 2, 5, 10, 12, 13, 14, 16, 17] [⟨some 47, .mv (.t 17), none, 0, []⟩,
    ⟨some 48, .bin .add .num (.t 47) (.c (.int .i64 1)), none, 0, []⟩,
    ⟨some 17, .mv (.t 48), none, 0, []⟩]))
/-- burin/burinref2.Crop -/
def burinref2_Crop : AFun := ⟨5, 68, true, [.cell 10 (some 3), .t 11],
  .seq (.reg false [1, 2, 3, 4, 5, 10] [⟨some 5, .box 3 (.t 0), none, 0, []⟩,
    ⟨some 10, .alloc [.int .i64 0, .int .i64 0, .sl none 0 0 0], none, 0, []⟩,
    ⟨some 11, .mv (.c (.int .i64 0)), none, 0, []⟩])
  (.seq (.seq (.reg false [1, 2, 3, 4, 5, 10, 22] [⟨some 19, .mv (.t 3), none, 0, []⟩,
    ⟨some 20, .mv (.t 4), none, 0, []⟩,
    ⟨some 21, .call (.f 74) [(.t 19), (.t 20)], none, 0, []⟩,
    ⟨some 22, .un .not (.t 21), none, 0, []⟩])
  (.cond (.t 22) (.seq (.reg false [10, 11] [⟨some 23, .build [.int .i64 0, .int .i64 0, .sl none 0 0 0] [], none, 0, []⟩,
    ⟨none, .store 3 (.t 10) (.t 23), none, 0, []⟩,
    ⟨some 11, .mv (.c (.int .i64 20)), none, 0, []⟩])
  (.ret))
  (.skip)))
  (.seq (.reg false [1, 2, 3, 4, 5, 10, 12] [⟨some 24, .mv (.t 3), none, 0, []⟩,
    ⟨some 25, .mv (.t 4), none, 0, []⟩,
    ⟨some 26, .call (.f 77) [(.t 24), (.t 25)], none, 0, []⟩,
    ⟨some 12, .alloc [.int .i64 0, .int .i64 0, .sl none 0 0 0], none, 0, []⟩,
    ⟨none, .store 3 (.t 12) (.t 26), none, 0, []⟩])
  (.seq (.reg false [1, 2, 4, 5, 10, 12, 13, 14] [⟨some 28, .mv (.t 1), none, 0, []⟩,
    ⟨some 29, .mv (.t 3), none, 0, []⟩,
    ⟨some 30, .fad 0 (.t 5), none, 0, []⟩,
    ⟨some 31, .load none (.t 30), none, 0, []⟩,
    ⟨some 32, .call (.f 86) [(.t 28), (.t 29), (.t 31)], none, 0, []⟩,
    ⟨some 27, .mv (.t 32), none, 0, []⟩,
    ⟨some 33, .ext 0 (.t 27), none, 0, []⟩,
    ⟨some 34, .ext 1 (.t 27), none, 0, []⟩,
    ⟨some 13, .mv (.t 33), none, 0, []⟩,
    ⟨some 14, .mv (.t 34), none, 0, []⟩])
  (.seq (.reg false [1, 2, 5, 10, 12, 13, 14, 15, 16] [⟨some 36, .mv (.t 2), none, 0, []⟩,
    ⟨some 37, .mv (.t 4), none, 0, []⟩,
    ⟨some 38, .fad 1 (.t 5), none, 0, []⟩,
    ⟨some 39, .load none (.t 38), none, 0, []⟩,
    ⟨some 40, .call (.f 86) [(.t 36), (.t 37), (.t 39)], none, 0, []⟩,
    ⟨some 35, .mv (.t 40), none, 0, []⟩,
    ⟨some 41, .ext 0 (.t 35), none, 0, []⟩,
    ⟨some 42, .ext 1 (.t 35), none, 0, []⟩,
    ⟨some 15, .mv (.t 41), none, 0, []⟩,
    ⟨some 16, .mv (.t 42), none, 0, []⟩])
  (.seq (.seq (.reg false [1, 2, 5, 10, 12, 13, 14, 16, 17] [⟨some 43, .mv (.t 15), none, 0, []⟩,
    ⟨some 17, .mv (.t 43), none, 0, []⟩])
  (.block 0 (.loop [1, 2, 5, 10, 12, 13, 14, 16, 17] burinref2_Crop_l0)))
  (.seq (.reg false [10, 11] [⟨some 67, .load (some 3) (.t 12), none, 0, []⟩,
    ⟨none, .store 3 (.t 10) (.t 67), none, 0, []⟩,
    ⟨some 11, .mv (.c (.int .i64 0)), none, 0, []⟩])
  (.ret)))))))⟩

def burinref2_Mirror_l1 : Cd := .seq (.seq (.reg false [1, 2, 3, 4, 5, 20] [⟨some 17, .mv (.t 5), none, 0, []⟩,
    ⟨some 18, .fad 0 (.t 1), none, 0, []⟩,
    ⟨some 19, .load none (.t 18), none, 0, []⟩,
    ⟨some 20, .bin .lss .num (.t 17) (.t 19), none, 0, []⟩])
  (.cond (.t 20) (.skip)
  (.exit 2)))
  (.seq (.block 3 (.reg true [1, 2, 3, 4, 5] [⟨some 23, .load (some 3) (.t 3), none, 0, []⟩,
    ⟨some 24, .mv (.t 5), none, 1, []⟩,
    ⟨some 25, .mv (.t 4), none, 2, []⟩,
    ⟨some 26, .load (some 3) (.t 1), none, 3, []⟩,
    ⟨some 27, .fad 0 (.t 1), none, 4, []⟩,
    ⟨some 28, .load none (.t 27), none, 5, []⟩,
    ⟨some 29, .bin .sub .num (.t 28) (.c (.int .i64 1)), none, 6, []⟩,
    ⟨some 30, .mv (.t 5), none, 7, []⟩,
    ⟨some 31, .bin .sub .num (.t 29) (.t 30), none, 8, []⟩,
    ⟨some 32, .mv (.t 4), none, 9, []⟩,
    ⟨some 33, .call (.f 78) [(.t 26), (.t 31), (.t 32)], none, 10, [0]⟩,
    ⟨some 34, .call (.f 79) [(.t 23), (.t 24), (.t 25), (.t 33)], none, 11, []⟩]))
  (.reg false [1, 2, 3, 4, 5] [⟨some 21, .mv (.t 5), none, 0, []⟩,
    ⟨some 22, .bin .add .num (.t 21) (.c (.int .i64 1)), none, 0, []⟩,
    ⟨some 5, .mv (.t 22), none, 0, []⟩]))
def burinref2_Mirror_l0 : Cd := .seq (.seq (.reg false [1, 2, 3, 4, 14] [⟨some 11, .mv (.t 4), none, 0, []⟩,
    ⟨some 12, .fad 1 (.t 1), none, 0, []⟩,
    ⟨some 13, .load none (.t 12), none, 0, []⟩,
    ⟨some 14, .bin .lss .num (.t 11) (.t 13), none, 0, []⟩])
  (.cond (.t 14) (.skip)
  (.exit 0)))
  (.seq (.block 1 (.seq (.reg false [1, 2, 3, 4, 5] [⟨some 5, .mv (.c (.int .i64 0)), none, 0, []⟩])
  (.block 2 (.loop [1, 2, 3, 4, 5] burinref2_Mirror_l1))))
  (.reg false [1, 2, 3, 4] [⟨some 15, .mv (.t 4), none, 0, []⟩,
    ⟨some 16, .bin .add .num (.t 15) (.c (.int .i64 1)), none, 0, []⟩,
    ⟨some 4, .mv (.t 16), none, 0, []⟩]))
/-- burin/burinref2.Mirror -/
def burinref2_Mirror : AFun := ⟨1, 36, true, [.cell 2 (some 3)],
  .seq (.reg false [1, 2] [⟨some 1, .box 3 (.t 0), none, 0, []⟩,
    ⟨some 2, .alloc [.int .i64 0, .int .i64 0, .sl none 0 0 0], none, 0, []⟩])
  (.seq (.reg false [1, 2, 3] [⟨some 6, .fad 0 (.t 1), none, 0, []⟩,
    ⟨some 7, .load none (.t 6), none, 0, []⟩,
    ⟨some 8, .fad 1 (.t 1), none, 0, []⟩,
    ⟨some 9, .load none (.t 8), none, 0, []⟩,
    ⟨some 10, .call (.f 77) [(.t 7), (.t 9)], none, 0, []⟩,
    ⟨some 3, .alloc [.int .i64 0, .int .i64 0, .sl none 0 0 0], none, 0, []⟩,
    ⟨none, .store 3 (.t 3) (.t 10), none, 0, []⟩])
  (.seq (.seq (.reg false [1, 2, 3, 4] [⟨some 4, .mv (.c (.int .i64 0)), none, 0, []⟩])
  (.block 0 (.loop [1, 2, 3, 4] burinref2_Mirror_l0)))
  (.seq (.reg false [2] [⟨some 35, .load (some 3) (.t 3), none, 0, []⟩,
    ⟨none, .store 3 (.t 2) (.t 35), none, 0, []⟩])
  (.ret))))⟩

def burinref2_Turn_l1 : Cd := .seq (.seq (.reg false [1, 2, 3, 4, 5, 20] [⟨some 17, .mv (.t 5), none, 0, []⟩,
    ⟨some 18, .fad 1 (.t 1), none, 0, []⟩,
    ⟨some 19, .load none (.t 18), none, 0, []⟩,
    ⟨some 20, .bin .lss .num (.t 17) (.t 19), none, 0, []⟩])
  (.cond (.t 20) (.skip)
  (.exit 2)))
  (.seq (.block 3 (.reg true [1, 2, 3, 4, 5] [⟨some 23, .load (some 3) (.t 3), none, 0, []⟩,
    ⟨some 24, .mv (.t 5), none, 1, []⟩,
    ⟨some 25, .mv (.t 4), none, 2, []⟩,
    ⟨some 26, .load (some 3) (.t 1), none, 3, []⟩,
    ⟨some 27, .mv (.t 4), none, 4, []⟩,
    ⟨some 28, .fad 1 (.t 1), none, 5, []⟩,
    ⟨some 29, .load none (.t 28), none, 6, []⟩,
    ⟨some 30, .bin .sub .num (.t 29) (.c (.int .i64 1)), none, 7, []⟩,
    ⟨some 31, .mv (.t 5), none, 8, []⟩,
    ⟨some 32, .bin .sub .num (.t 30) (.t 31), none, 9, []⟩,
    ⟨some 33, .call (.f 78) [(.t 26), (.t 27), (.t 32)], none, 10, [0]⟩,
    ⟨some 34, .call (.f 79) [(.t 23), (.t 24), (.t 25), (.t 33)], none, 11, []⟩]))
  (.reg false [1, 2, 3, 4, 5] [⟨some 21, .mv (.t 5), none, 0, []⟩,
    ⟨some 22, .bin .add .num (.t 21) (.c (.int .i64 1)), none, 0, []⟩,
    ⟨some 5, .mv (.t 22), none, 0, []⟩]))
def burinref2_Turn_l0 : Cd := .seq (.seq (.reg false [1, 2, 3, 4, 14] [⟨some 11, .mv (.t 4), none, 0, []⟩,
    ⟨some 12, .fad 0 (.t 1), none, 0, []⟩,
    ⟨some 13, .load none (.t 12), none, 0, []⟩,
    ⟨some 14, .bin .lss .num (.t 11) (.t 13), none, 0, []⟩])
  (.cond (.t 14) (.skip)
  (.exit 0)))
  (.seq (.block 1 (.seq (.reg false [1, 2, 3, 4, 5] [⟨some 5, .mv (.c (.int .i64 0)), none, 0, []⟩])
  (.block 2 (.loop [1, 2, 3, 4, 5] burinref2_Turn_l1))))
  (.reg false [1, 2, 3, 4] [⟨some 15, .mv (.t 4), none, 0, []⟩,
    ⟨some 16, .bin .add .num (.t 15) (.c (.int .i64 1)), none, 0, []⟩,
    ⟨some 4, .mv (.t 16), none, 0, []⟩]))
/-- burin/burinref2.Turn -/
def burinref2_Turn : AFun := ⟨1, 36, true, [.cell 2 (some 3)],
  .seq (.reg false [1, 2] [⟨some 1, .box 3 (.t 0), none, 0, []⟩,
    ⟨some 2, .alloc [.int .i64 0, .int .i64 0, .sl none 0 0 0], none, 0, []⟩])
  (.seq (.reg false [1, 2, 3] [⟨some 6, .fad 1 (.t 1), none, 0, []⟩,
    ⟨some 7, .load none (.t 6), none, 0, []⟩,
    ⟨some 8, .fad 0 (.t 1), none, 0, []⟩,
    ⟨some 9, .load none (.t 8), none, 0, []⟩,
    ⟨some 10, .call (.f 77) [(.t 7), (.t 9)], none, 0, []⟩,
    ⟨some 3, .alloc [.int .i64 0, .int .i64 0, .sl none 0 0 0], none, 0, []⟩,
    ⟨none, .store 3 (.t 3) (.t 10), none, 0, []⟩])
  (.seq (.seq (.reg false [1, 2, 3, 4] [⟨some 4, .mv (.c (.int .i64 0)), none, 0, []⟩])
  (.block 0 (.loop [1, 2, 3, 4] burinref2_Turn_l0)))
  (.seq (.reg false [2] [⟨some 35, .load (some 3) (.t 3), none, 0, []⟩,
    ⟨none, .store 3 (.t 2) (.t 35), none, 0, []⟩])
  (.ret))))⟩

def burinref2_Invert_l1 : Cd := .seq (.seq (.reg false [1, 2, 3, 13] [⟨some 10, .mv (.t 3), none, 0, []⟩,
    ⟨some 11, .fad 0 (.t 1), none, 0, []⟩,
    ⟨some 12, .load none (.t 11), none, 0, []⟩,
    ⟨some 13, .bin .lss .num (.t 10) (.t 12), none, 0, []⟩])
  (.cond (.t 13) (.skip)
  (.exit 2)))
  (.seq (.block 3 (.reg true [1, 2, 3] [⟨some 16, .load (some 3) (.t 1), none, 0, []⟩,
    ⟨some 17, .mv (.t 3), none, 1, []⟩,
    ⟨some 18, .mv (.t 2), none, 2, []⟩,
    ⟨some 19, .load (some 3) (.t 1), none, 3, []⟩,
    ⟨some 20, .mv (.t 3), none, 4, []⟩,
    ⟨some 21, .mv (.t 2), none, 5, []⟩,
    ⟨some 22, .call (.f 78) [(.t 19), (.t 20), (.t 21)], none, 6, [0]⟩,
    ⟨some 23, .bin .sub .num (.c (.int .i64 1)) (.t 22), none, 7, []⟩,
    ⟨some 24, .call (.f 79) [(.t 16), (.t 17), (.t 18), (.t 23)], none, 8, []⟩]))
  (.reg false [1, 2, 3] [⟨some 14, .mv (.t 3), none, 0, []⟩,
    ⟨some 15, .bin .add .num (.t 14) (.c (.int .i64 1)), none, 0, []⟩,
    ⟨some 3, .mv (.t 15), none, 0, []⟩]))
def burinref2_Invert_l0 : Cd := .seq (.seq (.reg false [1, 2, 7] [⟨some 4, .mv (.t 2), none, 0, []⟩,
    ⟨some 5, .fad 1 (.t 1), none, 0, []⟩,
    ⟨some 6, .load none (.t 5), none, 0, []⟩,
    ⟨some 7, .bin .lss .num (.t 4) (.t 6), none, 0, []⟩])
  (.cond (.t 7) (.skip)
  (.exit 0)))
  (.seq (.block 1 (.seq (.reg false [1, 2, 3] [⟨some 3, .mv (.c (.int .i64 0)), none, 0, []⟩])
  (.block 2 (.loop [1, 2, 3] burinref2_Invert_l1))))
  (.reg false [1, 2] [⟨some 8, .mv (.t 2), none, 0, []⟩,
    ⟨some 9, .bin .add .num (.t 8) (.c (.int .i64 1)), none, 0, []⟩,
    ⟨some 2, .mv (.t 9), none, 0, []⟩]))
/-- burin/burinref2.Invert -/
def burinref2_Invert : AFun := ⟨1, 25, true, [],
  .seq (.reg false [1] [⟨some 1, .box 3 (.t 0), none, 0, []⟩])
  (.seq (.reg false [1, 2] [⟨some 2, .mv (.c (.int .i64 0)), none, 0, []⟩])
  (.block 0 (.loop [1, 2] burinref2_Invert_l0)))⟩

/-- A program that has them. -/
structure HasRef2 (P : Prog) : Prop where
  h_burinref2_Set : P 85 = some burinref2_Set
  h_burinref2_span : P 86 = some burinref2_span
  h_burinref2_Fill : P 87 = some burinref2_Fill
  h_burinref2_greater : P 88 = some burinref2_greater
  h_burinref2_lesser : P 89 = some burinref2_lesser
  h_burinref2_Blit : P 90 = some burinref2_Blit
  h_burinref2_Crop : P 91 = some burinref2_Crop
  h_burinref2_Mirror : P 92 = some burinref2_Mirror
  h_burinref2_Turn : P 93 = some burinref2_Turn
  h_burinref2_Invert : P 94 = some burinref2_Invert

end Go.Ab
