/- The texts of functions of the given program, for the abstract machine: written by wip/tools/gen.py out of Lean's print of the translation. Conditions: none; definitions alone. -/
import Derived.Test.YtfgecfbknpifjaaK1
set_option linter.all false
namespace Go.Ab
-- burinkit_LendBitmap: 95, parameters b; loops burinkit_LendBitmap_l0 [1 b, 2 , 3 x, 4 i]
-- burinkit_BackBitmap: 96, parameters x b; loops burinkit_BackBitmap_l0 [5 ok, 6 all, 8 i]; burinkit_BackBitmap_l1 [5 ok, 6 all, 7 i]
-- burinkit_OverWords: 97, parameters l; loops burinkit_OverWords_l0 [0 l, 2 i]
-- burinkit_Small: 98, parameters l most; loops burinkit_Small_l0 [0 l, 1 most, 5 n, 6 i]

def burinkit_LendBitmap_l0 : Cd := .seq (.seq (.reg false [1, 2, 3, 4, 15] [⟨some 14, .mv (.t 4), none, 0, []⟩,
    ⟨some 15, .bin .lss .num (.t 14) (.c (.int .i64 7)), none, 0, []⟩])
  (.cond (.t 15) (.skip)
  (.exit 0)))
  (.seq (.block 1 (.reg false [1, 2, 3, 4] [⟨some 18, .mv (.t 3), none, 0, []⟩,
    ⟨some 19, .bslice 1 [.int .u64 0] 1 [(0, (.c (.int .u64 42405)))], none, 0, []⟩,
    ⟨some 20, .append 1 8 (.t 18) (.t 19), none, 0, []⟩,
    ⟨some 3, .mv (.t 20), none, 0, []⟩]))
  (.reg false [1, 2, 3, 4] [⟨some 16, .mv (.t 4), none, 0, []⟩,
    ⟨some 17, .bin .add .num (.t 16) (.c (.int .i64 1)), none, 0, []⟩,
    ⟨some 4, .mv (.t 17), none, 0, []⟩]))
/-- burin/burinkit.LendBitmap -/
def burinkit_LendBitmap : AFun := ⟨1, 31, true, [.cell 2 (some 3)],
  .seq (.reg false [1, 2] [⟨some 1, .box 3 (.t 0), none, 0, []⟩,
    ⟨some 2, .alloc [.int .i64 0, .int .i64 0, .sl none 0 0 0], none, 0, []⟩])
  (.seq (.reg false [1, 2, 3] [⟨some 5, .fad 2 (.t 1), none, 0, []⟩,
    ⟨some 6, .load none (.t 5), none, 0, []⟩,
    ⟨some 7, .len none (.t 6), none, 0, []⟩,
    ⟨some 8, .bin .add .num (.t 7) (.c (.int .i64 7)), none, 0, []⟩,
    ⟨some 9, .mkslice 1 8 [.int .u64 0] (.c (.int .i64 0)) (.t 8), none, 0, []⟩,
    ⟨some 3, .mv (.t 9), none, 0, []⟩])
  (.seq (.reg false [1, 2, 3] [⟨some 10, .mv (.t 3), none, 0, []⟩,
    ⟨some 11, .fad 2 (.t 1), none, 0, []⟩,
    ⟨some 12, .load none (.t 11), none, 0, []⟩,
    ⟨some 13, .append 1 8 (.t 10) (.t 12), none, 0, []⟩,
    ⟨some 3, .mv (.t 13), none, 0, []⟩])
  (.seq (.seq (.reg false [1, 2, 3, 4] [⟨some 4, .mv (.c (.int .i64 0)), none, 0, []⟩])
  (.block 0 (.loop [1, 2, 3, 4] burinkit_LendBitmap_l0)))
  (.seq (.reg true [2] [⟨some 21, .fad 0 (.t 1), none, 0, []⟩,
    ⟨some 22, .load none (.t 21), none, 1, []⟩,
    ⟨some 23, .fad 1 (.t 1), none, 2, []⟩,
    ⟨some 24, .load none (.t 23), none, 3, []⟩,
    ⟨some 25, .mv (.t 3), none, 4, []⟩,
    ⟨some 26, .fad 2 (.t 1), none, 5, []⟩,
    ⟨some 27, .load none (.t 26), none, 6, []⟩,
    ⟨some 28, .len none (.t 27), none, 7, []⟩,
    ⟨some 29, .slice 1 (.t 25) none (some (.t 28)) none, none, 8, []⟩,
    ⟨some 30, .build [.int .i64 0, .int .i64 0, .sl none 0 0 0] [(0, 1, (.t 22)), (1, 1, (.t 24)), (2, 1, (.t 29))], none, 9, []⟩,
    ⟨none, .store 3 (.t 2) (.t 30), none, 10, []⟩])
  (.ret)))))⟩

def burinkit_BackBitmap_l1 : Cd := .seq (.seq (.reg false [5, 6, 7, 25] [⟨some 22, .mv (.t 7), none, 0, []⟩,
    ⟨some 23, .mv (.t 6), none, 0, []⟩,
    ⟨some 24, .len none (.t 23), none, 0, []⟩,
    ⟨some 25, .bin .lss .num (.t 22) (.t 24), none, 0, []⟩])
  (.cond (.t 25) (.skip)
  (.exit 0)))
  (.seq (.block 1 (.reg false [5, 6, 7] [⟨some 28, .mv (.t 5), none, 0, []⟩,
    ⟨some 29, .mv (.t 28), none, 0, []⟩,
    ⟨some 30, .mv (.t 6), some (29, true), 0, []⟩,
    ⟨some 31, .mv (.t 7), some (29, true), 0, []⟩,
    ⟨some 32, .iad none 1 (.t 30) (.t 31), some (29, true), 0, []⟩,
    ⟨some 33, .load none (.t 32), some (29, true), 0, []⟩,
    ⟨some 34, .bin .eql .num (.t 33) (.c (.int .u64 42405)), some (29, true), 0, []⟩,
    ⟨some 35, .pick (.t 29) (.t 34) (.c (.bool false)), none, 0, []⟩,
    ⟨some 5, .mv (.t 35), none, 0, []⟩]))
  (.reg false [5, 6, 7] [⟨some 26, .mv (.t 7), none, 0, []⟩,
    ⟨some 27, .bin .add .num (.t 26) (.c (.int .i64 1)), none, 0, []⟩,
    ⟨some 7, .mv (.t 27), none, 0, []⟩]))
def burinkit_BackBitmap_l0 : Cd := .seq (.seq (.reg false [5, 6, 8, 39] [⟨some 36, .mv (.t 8), none, 0, []⟩,
    ⟨some 37, .mv (.t 6), none, 0, []⟩,
    ⟨some 38, .len none (.t 37), none, 0, []⟩,
    ⟨some 39, .bin .lss .num (.t 36) (.t 38), none, 0, []⟩])
  (.cond (.t 39) (.skip)
  (.exit 2)))
  (.seq (.block 3 (.reg false [5, 6, 8] [⟨some 42, .mv (.t 6), none, 0, []⟩,
    ⟨some 43, .mv (.t 8), none, 0, []⟩,
    ⟨some 44, .iad none 1 (.t 42) (.t 43), none, 0, []⟩,
    ⟨none, .store 1 (.t 44) (.c (.int .u64 1515870810)), none, 0, []⟩]))
  (.reg false [5, 6, 8] [⟨some 40, .mv (.t 8), none, 0, []⟩,
    ⟨some 41, .bin .add .num (.t 40) (.c (.int .i64 1)), none, 0, []⟩,
    ⟨some 8, .mv (.t 41), none, 0, []⟩]))
/-- burin/burinkit.BackBitmap -/
def burinkit_BackBitmap : AFun := ⟨2, 46, true, [.t 4],
  .seq (.reg false [2, 3] [⟨some 2, .box 3 (.t 0), none, 0, []⟩,
    ⟨some 3, .box 3 (.t 1), none, 0, []⟩,
    ⟨some 4, .mv (.c (.bool false)), none, 0, []⟩])
  (.seq (.reg false [2, 3, 5] [⟨some 9, .load (some 3) (.t 2), none, 0, []⟩,
    ⟨some 10, .load (some 3) (.t 3), none, 0, []⟩,
    ⟨some 11, .call (.f 84) [(.t 9), (.t 10)], none, 0, []⟩,
    ⟨some 5, .mv (.t 11), none, 0, []⟩])
  (.seq (.reg false [3, 5, 6] [⟨some 12, .fad 2 (.t 2), none, 0, []⟩,
    ⟨some 13, .load none (.t 12), none, 0, []⟩,
    ⟨some 14, .fad 2 (.t 3), none, 0, []⟩,
    ⟨some 15, .load none (.t 14), none, 0, []⟩,
    ⟨some 16, .len none (.t 15), none, 0, []⟩,
    ⟨some 17, .bin .add .num (.t 16) (.c (.int .i64 7)), none, 0, []⟩,
    ⟨some 18, .slice 1 (.t 13) none (some (.t 17)) none, none, 0, []⟩,
    ⟨some 6, .mv (.t 18), none, 0, []⟩])
  (.seq (.seq (.reg false [5, 6, 7] [⟨some 19, .fad 2 (.t 3), none, 0, []⟩,
    ⟨some 20, .load none (.t 19), none, 0, []⟩,
    ⟨some 21, .len none (.t 20), none, 0, []⟩,
    ⟨some 7, .mv (.t 21), none, 0, []⟩])
  (.block 0 (.loop [5, 6, 7] burinkit_BackBitmap_l1)))
  (.seq (.seq (.reg false [5, 6, 8] [⟨some 8, .mv (.c (.int .i64 0)), none, 0, []⟩])
  (.block 2 (.loop [5, 6, 8] burinkit_BackBitmap_l0)))
  (.seq (.reg false [4] [⟨some 45, .mv (.t 5), none, 0, []⟩,
    ⟨some 4, .mv (.t 45), none, 0, []⟩])
  (.ret))))))⟩

def burinkit_OverWords_l0 : Cd := .seq (.seq (.reg false [0, 2, 7] [⟨some 4, .mv (.t 2), none, 0, []⟩,
    ⟨some 5, .mv (.t 0), none, 0, []⟩,
    ⟨some 6, .len none (.t 5), none, 0, []⟩,
    ⟨some 7, .bin .lss .num (.t 4) (.t 6), none, 0, []⟩])
  (.cond (.t 7) (.skip)
  (.exit 0)))
  (.seq (.block 1 (.reg false [0, 2] [⟨some 10, .mv (.t 0), none, 0, []⟩,
    ⟨some 11, .mv (.t 2), none, 0, []⟩,
    ⟨some 12, .iad none 1 (.t 10) (.t 11), none, 0, []⟩,
    ⟨none, .store 1 (.t 12) (.c (.int .u64 23130)), none, 0, []⟩]))
  (.reg false [0, 2] [⟨some 8, .mv (.t 2), none, 0, []⟩,
    ⟨some 9, .bin .add .num (.t 8) (.c (.int .i64 1)), none, 0, []⟩,
    ⟨some 2, .mv (.t 9), none, 0, []⟩]))
/-- burin/burinkit.OverWords -/
def burinkit_OverWords : AFun := ⟨1, 20, true, [],
  .seq (.seq (.reg false [0, 2] [⟨some 2, .mv (.c (.int .i64 0)), none, 0, []⟩])
  (.block 0 (.loop [0, 2] burinkit_OverWords_l0)))
  (.seq (.reg false [0, 3] [⟨some 13, .mv (.t 0), none, 0, []⟩,
    ⟨some 14, .bslice 1 [.int .u64 0] 2 [(0, (.c (.int .u64 1))), (1, (.c (.int .u64 2)))], none, 0, []⟩,
    ⟨some 15, .append 1 8 (.t 13) (.t 14), none, 0, []⟩,
    ⟨some 3, .mv (.t 15), none, 0, []⟩])
  (.reg false [] [⟨some 16, .mv (.t 3), none, 0, []⟩,
    ⟨some 17, .mv (.t 0), none, 0, []⟩,
    ⟨some 18, .len none (.t 17), none, 0, []⟩,
    ⟨some 19, .iad none 1 (.t 16) (.t 18), none, 0, []⟩,
    ⟨none, .store 1 (.t 19) (.c (.int .u64 23130)), none, 0, []⟩]))⟩

def burinkit_Small_l0 : Cd := .seq (.seq (.reg false [0, 1, 5, 6, 10] [⟨some 7, .mv (.t 6), none, 0, []⟩,
    ⟨some 8, .mv (.t 0), none, 0, []⟩,
    ⟨some 9, .len none (.t 8), none, 0, []⟩,
    ⟨some 10, .bin .lss .num (.t 7) (.t 9), none, 0, []⟩])
  (.cond (.t 10) (.skip)
  (.exit 0)))
  (.seq (.block 1 (.seq (.reg false [0, 1, 5, 6] [⟨some 13, .mv (.t 5), none, 0, []⟩,
    ⟨some 14, .mv (.t 0), none, 0, []⟩,
    ⟨some 15, .mv (.t 6), none, 0, []⟩,
    ⟨some 16, .iad none 3 (.t 14) (.t 15), none, 0, []⟩,
    ⟨some 17, .fad 2 (.t 16), none, 0, []⟩,
    ⟨some 18, .load none (.t 17), none, 0, []⟩,
    ⟨some 19, .len none (.t 18), none, 0, []⟩,
    ⟨some 20, .bin .mul .num (.c (.int .i64 64)) (.t 19), none, 0, []⟩,
    ⟨some 21, .bin .add .num (.t 13) (.t 20), none, 0, []⟩,
    ⟨some 22, .bin .add .num (.t 21) (.c (.int .i64 64)), none, 0, []⟩,
    ⟨some 5, .mv (.t 22), none, 0, []⟩])
  (.seq (.reg false [0, 1, 5, 6, 25] [⟨some 23, .mv (.t 5), none, 0, []⟩,
    ⟨some 24, .mv (.t 1), none, 0, []⟩,
    ⟨some 25, .bin .gtr .num (.t 23) (.t 24), none, 0, []⟩])
  (.cond (.t 25) (.seq (.reg false [4] [⟨some 4, .mv (.c (.bool false)), none, 0, []⟩])
  (.ret))
  (.skip)))))
  (.reg false [0, 1, 5, 6] [⟨some 11, .mv (.t 6), none, 0, []⟩,
    ⟨some 12, .bin .add .num (.t 11) (.c (.int .i64 1)), none, 0, []⟩,
    ⟨some 6, .mv (.t 12), none, 0, []⟩]))
/-- burin/burinkit.Small -/
def burinkit_Small : AFun := ⟨2, 26, true, [.t 4],
  .seq (.reg false [0, 1] [⟨some 4, .mv (.c (.bool false)), none, 0, []⟩])
  (.seq (.reg false [0, 1, 5] [⟨some 5, .mv (.c (.int .i64 0)), none, 0, []⟩])
  (.seq (.seq (.reg false [0, 1, 5, 6] [⟨some 6, .mv (.c (.int .i64 0)), none, 0, []⟩])
  (.block 0 (.loop [0, 1, 5, 6] burinkit_Small_l0)))
  (.seq (.reg false [4] [⟨some 4, .mv (.c (.bool true)), none, 0, []⟩])
  (.ret))))⟩

/-- A program that has them. -/
structure HasKit2 (P : Prog) : Prop where
  h_burinkit_LendBitmap : P 95 = some burinkit_LendBitmap
  h_burinkit_BackBitmap : P 96 = some burinkit_BackBitmap
  h_burinkit_OverWords : P 97 = some burinkit_OverWords
  h_burinkit_Small : P 98 = some burinkit_Small

end Go.Ab
