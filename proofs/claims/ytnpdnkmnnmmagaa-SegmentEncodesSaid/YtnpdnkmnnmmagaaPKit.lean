/- The texts of functions of the given program, for the abstract machine: written by wip/tools/gen.py out of Lean's print of the translation. Conditions: none; definitions alone. -/
import Derived.Test.YtnpdnkmnnmmagaaPKitW
set_option linter.all false
namespace Go.Ab
-- burinref0_Eq: 26, parameters a b; loops burinref0_Eq_l0 [0 a, 1 b, 5 i]
-- burinref0_Copy: 27, parameters a; loops 
-- burinkit_Over: 28, parameters b; loops burinkit_Over_l0 [0 b, 2 i]
-- burinkit_Within: 29, parameters i n; loops 
-- burinkit_Lend: 30, parameters b; loops burinkit_Lend_l0 [0 b, 3 x, 4 i]
-- burinkit_Back: 31, parameters x b; loops burinkit_Back_l0 [5 ok, 6 all, 8 i]; burinkit_Back_l1 [5 ok, 6 all, 7 i]

def burinref0_Eq_l0 : Cd := .seq (.seq (.reg false [0, 1, 5, 14] [⟨some 11, .mv (.t 5), none, 0, []⟩,
    ⟨some 12, .mv (.t 0), none, 0, []⟩,
    ⟨some 13, .len none (.t 12), none, 0, []⟩,
    ⟨some 14, .bin .lss .num (.t 11) (.t 13), none, 0, []⟩])
  (.cond (.t 14) (.skip)
  (.exit 0)))
  (.seq (.block 1 (.seq (.reg true [0, 1, 5, 25] [⟨some 17, .mv (.t 0), none, 0, []⟩,
    ⟨some 18, .mv (.t 5), none, 1, []⟩,
    ⟨some 19, .iad none 1 (.t 17) (.t 18), none, 2, []⟩,
    ⟨some 20, .load none (.t 19), none, 3, []⟩,
    ⟨some 21, .mv (.t 1), none, 4, []⟩,
    ⟨some 22, .mv (.t 5), none, 5, []⟩,
    ⟨some 23, .iad none 1 (.t 21) (.t 22), none, 6, []⟩,
    ⟨some 24, .load none (.t 23), none, 7, []⟩,
    ⟨some 25, .bin .neq .num (.t 20) (.t 24), none, 8, []⟩])
  (.cond (.t 25) (.seq (.reg false [4] [⟨some 4, .mv (.c (.bool false)), none, 0, []⟩])
  (.ret))
  (.skip))))
  (.reg false [0, 1, 5] [⟨some 15, .mv (.t 5), none, 0, []⟩,
    ⟨some 16, .bin .add .num (.t 15) (.c (.int .i64 1)), none, 0, []⟩,
    ⟨some 5, .mv (.t 16), none, 0, []⟩]))
/-- burin/burinref0.Eq -/
def burinref0_Eq : AFun := ⟨2, 26, true, [.t 4],
  .seq (.reg false [0, 1] [⟨some 4, .mv (.c (.bool false)), none, 0, []⟩])
  (.seq (.seq (.reg false [0, 1, 10] [⟨some 6, .mv (.t 0), none, 0, []⟩,
    ⟨some 7, .len none (.t 6), none, 0, []⟩,
    ⟨some 8, .mv (.t 1), none, 0, []⟩,
    ⟨some 9, .len none (.t 8), none, 0, []⟩,
    ⟨some 10, .bin .neq .num (.t 7) (.t 9), none, 0, []⟩])
  (.cond (.t 10) (.seq (.reg false [4] [⟨some 4, .mv (.c (.bool false)), none, 0, []⟩])
  (.ret))
  (.skip)))
  (.seq (.seq (.reg false [0, 1, 5] [⟨some 5, .mv (.c (.int .i64 0)), none, 0, []⟩])
  (.block 0 (.loop [0, 1, 5] burinref0_Eq_l0)))
  (.seq (.reg false [4] [⟨some 4, .mv (.c (.bool true)), none, 0, []⟩])
  (.ret))))⟩

/-- burin/burinref0.Copy -/
def burinref0_Copy : AFun := ⟨1, 7, true, [.t 2],
  .seq (.reg false [0] [⟨some 2, .mv (.c (.sl none 0 0 0)), none, 0, []⟩])
  (.seq (.reg false [0, 3] [⟨some 3, .mv (.c (.sl none 0 0 0)), none, 0, []⟩])
  (.seq (.reg false [2] [⟨some 4, .mv (.t 3), none, 0, []⟩,
    ⟨some 5, .mv (.t 0), none, 0, []⟩,
    ⟨some 6, .append 1 1 (.t 4) (.t 5), none, 0, []⟩,
    ⟨some 2, .mv (.t 6), none, 0, []⟩])
  (.ret)))⟩

def burinkit_Over_l0 : Cd := .seq (.seq (.reg false [0, 2, 7] [⟨some 4, .mv (.t 2), none, 0, []⟩,
    ⟨some 5, .mv (.t 0), none, 0, []⟩,
    ⟨some 6, .len none (.t 5), none, 0, []⟩,
    ⟨some 7, .bin .lss .num (.t 4) (.t 6), none, 0, []⟩])
  (.cond (.t 7) (.skip)
  (.exit 0)))
  (.seq (.block 1 (.reg false [0, 2] [⟨some 10, .mv (.t 0), none, 0, []⟩,
    ⟨some 11, .mv (.t 2), none, 0, []⟩,
    ⟨some 12, .iad none 1 (.t 10) (.t 11), none, 0, []⟩,
    ⟨none, .store 1 (.t 12) (.c (.int .u8 90)), none, 0, []⟩]))
  (.reg false [0, 2] [⟨some 8, .mv (.t 2), none, 0, []⟩,
    ⟨some 9, .bin .add .num (.t 8) (.c (.int .i64 1)), none, 0, []⟩,
    ⟨some 2, .mv (.t 9), none, 0, []⟩]))
/-- burin/burinkit.Over -/
def burinkit_Over : AFun := ⟨1, 20, true, [],
  .seq (.seq (.reg false [0, 2] [⟨some 2, .mv (.c (.int .i64 0)), none, 0, []⟩])
  (.block 0 (.loop [0, 2] burinkit_Over_l0)))
  (.seq (.reg false [0, 3] [⟨some 13, .mv (.t 0), none, 0, []⟩,
    ⟨some 14, .bslice 1 [.int .u8 0] 3 [(0, (.c (.int .u8 1))), (1, (.c (.int .u8 2))), (2, (.c (.int .u8 3)))], none, 0, []⟩,
    ⟨some 15, .append 1 1 (.t 13) (.t 14), none, 0, []⟩,
    ⟨some 3, .mv (.t 15), none, 0, []⟩])
  (.reg false [] [⟨some 16, .mv (.t 3), none, 0, []⟩,
    ⟨some 17, .mv (.t 0), none, 0, []⟩,
    ⟨some 18, .len none (.t 17), none, 0, []⟩,
    ⟨some 19, .iad none 1 (.t 16) (.t 18), none, 0, []⟩,
    ⟨none, .store 1 (.t 19) (.c (.int .u8 90)), none, 0, []⟩]))⟩

def burinkit_Lend_l0 : Cd := .seq (.seq (.reg false [0, 3, 4, 13] [⟨some 12, .mv (.t 4), none, 0, []⟩,
    ⟨some 13, .bin .lss .num (.t 12) (.c (.int .i64 7)), none, 0, []⟩])
  (.cond (.t 13) (.skip)
  (.exit 0)))
  (.seq (.block 1 (.reg false [0, 3, 4] [⟨some 16, .mv (.t 3), none, 0, []⟩,
    ⟨some 17, .bslice 1 [.int .u8 0] 1 [(0, (.c (.int .u8 165)))], none, 0, []⟩,
    ⟨some 18, .append 1 1 (.t 16) (.t 17), none, 0, []⟩,
    ⟨some 3, .mv (.t 18), none, 0, []⟩]))
  (.reg false [0, 3, 4] [⟨some 14, .mv (.t 4), none, 0, []⟩,
    ⟨some 15, .bin .add .num (.t 14) (.c (.int .i64 1)), none, 0, []⟩,
    ⟨some 4, .mv (.t 15), none, 0, []⟩]))
/-- burin/burinkit.Lend -/
def burinkit_Lend : AFun := ⟨1, 23, true, [.t 2],
  .seq (.reg false [0] [⟨some 2, .mv (.c (.sl none 0 0 0)), none, 0, []⟩])
  (.seq (.reg false [0, 3] [⟨some 5, .mv (.t 0), none, 0, []⟩,
    ⟨some 6, .len none (.t 5), none, 0, []⟩,
    ⟨some 7, .bin .add .num (.t 6) (.c (.int .i64 7)), none, 0, []⟩,
    ⟨some 8, .mkslice 1 1 [.int .u8 0] (.c (.int .i64 0)) (.t 7), none, 0, []⟩,
    ⟨some 3, .mv (.t 8), none, 0, []⟩])
  (.seq (.reg false [0, 3] [⟨some 9, .mv (.t 3), none, 0, []⟩,
    ⟨some 10, .mv (.t 0), none, 0, []⟩,
    ⟨some 11, .append 1 1 (.t 9) (.t 10), none, 0, []⟩,
    ⟨some 3, .mv (.t 11), none, 0, []⟩])
  (.seq (.seq (.reg false [0, 3, 4] [⟨some 4, .mv (.c (.int .i64 0)), none, 0, []⟩])
  (.block 0 (.loop [0, 3, 4] burinkit_Lend_l0)))
  (.seq (.reg false [2] [⟨some 19, .mv (.t 3), none, 0, []⟩,
    ⟨some 20, .mv (.t 0), none, 0, []⟩,
    ⟨some 21, .len none (.t 20), none, 0, []⟩,
    ⟨some 22, .slice 1 (.t 19) none (some (.t 21)) none, none, 0, []⟩,
    ⟨some 2, .mv (.t 22), none, 0, []⟩])
  (.ret)))))⟩

def burinkit_Back_l1 : Cd := .seq (.seq (.reg false [5, 6, 7, 22] [⟨some 19, .mv (.t 7), none, 0, []⟩,
    ⟨some 20, .mv (.t 6), none, 0, []⟩,
    ⟨some 21, .len none (.t 20), none, 0, []⟩,
    ⟨some 22, .bin .lss .num (.t 19) (.t 21), none, 0, []⟩])
  (.cond (.t 22) (.skip)
  (.exit 0)))
  (.seq (.block 1 (.reg false [5, 6, 7] [⟨some 25, .mv (.t 5), none, 0, []⟩,
    ⟨some 26, .mv (.t 25), none, 0, []⟩,
    ⟨some 27, .mv (.t 6), some (26, true), 0, []⟩,
    ⟨some 28, .mv (.t 7), some (26, true), 0, []⟩,
    ⟨some 29, .iad none 1 (.t 27) (.t 28), some (26, true), 0, []⟩,
    ⟨some 30, .load none (.t 29), some (26, true), 0, []⟩,
    ⟨some 31, .bin .eql .num (.t 30) (.c (.int .u8 165)), some (26, true), 0, []⟩,
    ⟨some 32, .pick (.t 26) (.t 31) (.c (.bool false)), none, 0, []⟩,
    ⟨some 5, .mv (.t 32), none, 0, []⟩]))
  (.reg false [5, 6, 7] [⟨some 23, .mv (.t 7), none, 0, []⟩,
    ⟨some 24, .bin .add .num (.t 23) (.c (.int .i64 1)), none, 0, []⟩,
    ⟨some 7, .mv (.t 24), none, 0, []⟩]))
def burinkit_Back_l0 : Cd := .seq (.seq (.reg false [5, 6, 8, 36] [⟨some 33, .mv (.t 8), none, 0, []⟩,
    ⟨some 34, .mv (.t 6), none, 0, []⟩,
    ⟨some 35, .len none (.t 34), none, 0, []⟩,
    ⟨some 36, .bin .lss .num (.t 33) (.t 35), none, 0, []⟩])
  (.cond (.t 36) (.skip)
  (.exit 2)))
  (.seq (.block 3 (.reg false [5, 6, 8] [⟨some 39, .mv (.t 6), none, 0, []⟩,
    ⟨some 40, .mv (.t 8), none, 0, []⟩,
    ⟨some 41, .iad none 1 (.t 39) (.t 40), none, 0, []⟩,
    ⟨none, .store 1 (.t 41) (.c (.int .u8 90)), none, 0, []⟩]))
  (.reg false [5, 6, 8] [⟨some 37, .mv (.t 8), none, 0, []⟩,
    ⟨some 38, .bin .add .num (.t 37) (.c (.int .i64 1)), none, 0, []⟩,
    ⟨some 8, .mv (.t 38), none, 0, []⟩]))
/-- burin/burinkit.Back -/
def burinkit_Back : AFun := ⟨2, 43, true, [.t 4],
  .seq (.reg false [0, 1] [⟨some 4, .mv (.c (.bool false)), none, 0, []⟩])
  (.seq (.reg false [0, 1, 5] [⟨some 9, .mv (.t 0), none, 0, []⟩,
    ⟨some 10, .mv (.t 1), none, 0, []⟩,
    ⟨some 11, .call (.f 26) [(.t 9), (.t 10)], none, 0, []⟩,
    ⟨some 5, .mv (.t 11), none, 0, []⟩])
  (.seq (.reg false [1, 5, 6] [⟨some 12, .mv (.t 0), none, 0, []⟩,
    ⟨some 13, .mv (.t 1), none, 0, []⟩,
    ⟨some 14, .len none (.t 13), none, 0, []⟩,
    ⟨some 15, .bin .add .num (.t 14) (.c (.int .i64 7)), none, 0, []⟩,
    ⟨some 16, .slice 1 (.t 12) none (some (.t 15)) none, none, 0, []⟩,
    ⟨some 6, .mv (.t 16), none, 0, []⟩])
  (.seq (.seq (.reg false [5, 6, 7] [⟨some 17, .mv (.t 1), none, 0, []⟩,
    ⟨some 18, .len none (.t 17), none, 0, []⟩,
    ⟨some 7, .mv (.t 18), none, 0, []⟩])
  (.block 0 (.loop [5, 6, 7] burinkit_Back_l1)))
  (.seq (.seq (.reg false [5, 6, 8] [⟨some 8, .mv (.c (.int .i64 0)), none, 0, []⟩])
  (.block 2 (.loop [5, 6, 8] burinkit_Back_l0)))
  (.seq (.reg false [4] [⟨some 42, .mv (.t 5), none, 0, []⟩,
    ⟨some 4, .mv (.t 42), none, 0, []⟩])
  (.ret))))))⟩

/-- A program that has them. -/
structure HasKit (P : Prog) : Prop where
  h_burinref0_Eq : P 26 = some burinref0_Eq
  h_burinref0_Copy : P 27 = some burinref0_Copy
  h_burinkit_Over : P 28 = some burinkit_Over
  h_burinkit_Within : P 29 = some burinkit_Within
  h_burinkit_Lend : P 30 = some burinkit_Lend
  h_burinkit_Back : P 31 = some burinkit_Back

end Go.Ab
