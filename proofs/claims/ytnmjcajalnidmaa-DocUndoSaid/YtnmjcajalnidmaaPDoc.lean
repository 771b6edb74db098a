/- The texts of functions of the given program, for the abstract machine: written by wip/tools/gen.py out of Lean's print of the translation. Conditions: none; definitions alone. -/
import Derived.Test.YtnmjcajalnidmaaK1
set_option linter.all false
namespace Go.Ab
-- doc_New: 128, parameters ; loops 
-- doc_told: 129, parameters err; loops 
-- doc_Doc_done: 130, parameters d undo; loops 
-- doc_Doc_is: 131, parameters d page; loops 
-- doc_Doc_NewPage: 133, parameters d w h; loops 
-- doc_Doc_NewPage_1: 132, parameters  ; loops 
-- doc_Doc_Pages: 134, parameters d; loops 
-- doc_Doc_Page: 135, parameters d page; loops 
-- doc_Doc_kept: 137, parameters d page; loops 
-- doc_Doc_kept_1: 136, parameters   ; loops 
-- doc_Doc_draw: 138, parameters d page does; loops 
-- doc_Doc_Set: 140, parameters d page x y bit; loops 
-- doc_Doc_Set_1: 139, parameters m   ; loops 
-- doc_Doc_Fill: 142, parameters d page x y w h bit; loops 
-- doc_Doc_Fill_1: 141, parameters m     ; loops 
-- doc_Doc_Blit: 144, parameters d from sx sy w h to dx dy op; loops 
-- doc_Doc_Blit_1: 143, parameters m         ; loops 
-- doc_Doc_Undo: 145, parameters d; loops 
-- burinlaw20_wakes: 146, parameters ; loops 

/-- burin/doc.New -/
def doc_New : AFun := ⟨0, 3, true, [.t 0],
  .seq (.reg false [] [⟨some 0, .mv (.c (.ptr none)), none, 0, []⟩])
  (.seq (.reg false [0] [⟨some 1, .build [.sl none 0 0 0, .sl none 0 0 0] [], none, 0, []⟩,
    ⟨some 2, .box 2 (.t 1), none, 0, []⟩,
    ⟨some 0, .mv (.t 2), none, 0, []⟩])
  (.ret))⟩

/-- burin/doc.told -/
def doc_told : AFun := ⟨1, 13, true, [.t 2],
  .seq (.reg false [0] [⟨some 2, .mv (.c (.int .i64 0)), none, 0, []⟩])
  (.seq (.seq (.reg false [0, 3] [⟨some 3, .mv (.t 0), none, 0, []⟩])
  (.block 0 (.seq (.reg false [0, 3, 4] [⟨some 5, .bin .eql .num (.t 3) (.c (.int .i64 20)), none, 0, []⟩,
    ⟨some 4, .mv (.t 5), none, 0, []⟩])
  (.cond (.t 4) (.seq (.reg false [2] [⟨some 2, .mv (.c (.int .i64 180)), none, 0, []⟩])
  (.ret))
  (.seq (.reg false [0, 3, 6] [⟨some 7, .bin .eql .num (.t 3) (.c (.int .i64 22)), none, 0, []⟩,
    ⟨some 6, .mv (.t 7), none, 0, []⟩])
  (.cond (.t 6) (.seq (.reg false [2] [⟨some 2, .mv (.c (.int .i64 182)), none, 0, []⟩])
  (.ret))
  (.seq (.seq (.reg false [0, 3, 8] [⟨some 9, .bin .eql .num (.t 3) (.c (.int .i64 23)), none, 0, []⟩,
    ⟨some 8, .mv (.t 9), none, 0, []⟩])
  (.cond (.t 8) (.skip)
  (.seq (.reg false [0, 3, 8] [⟨some 10, .bin .eql .num (.t 3) (.c (.int .i64 24)), none, 0, []⟩,
    ⟨some 8, .mv (.t 10), none, 0, []⟩])
  (.cond (.t 8) (.skip)
  (.reg false [0, 8] [⟨some 11, .bin .eql .num (.t 3) (.c (.int .i64 25)), none, 0, []⟩,
    ⟨some 8, .mv (.t 11), none, 0, []⟩])))))
  (.cond (.t 8) (.seq (.reg false [2] [⟨some 2, .mv (.c (.int .i64 183)), none, 0, []⟩])
  (.ret))
  (.skip)))))))))
  (.seq (.reg false [2] [⟨some 12, .mv (.t 0), none, 0, []⟩,
    ⟨some 2, .mv (.t 12), none, 0, []⟩])
  (.ret)))⟩

/-- (*burin/doc.Doc).done -/
def doc_Doc_done : AFun := ⟨2, 30, true, [],
  .seq (.seq (.reg false [0, 1, 9] [⟨some 4, .mv (.t 0), none, 0, []⟩,
    ⟨some 5, .nilck (.t 4), none, 0, []⟩,
    ⟨some 6, .fad 1 (.t 5), none, 0, []⟩,
    ⟨some 7, .load none (.t 6), none, 0, []⟩,
    ⟨some 8, .len none (.t 7), none, 0, []⟩,
    ⟨some 9, .bin .eql .num (.t 8) (.c (.int .i64 64)), none, 0, []⟩])
  (.cond (.t 9) (.reg false [0, 1] [⟨some 10, .mv (.t 0), none, 0, []⟩,
    ⟨some 11, .mv (.t 0), none, 0, []⟩,
    ⟨some 12, .nilck (.t 11), none, 0, []⟩,
    ⟨some 13, .fad 1 (.t 12), none, 0, []⟩,
    ⟨some 14, .load none (.t 13), none, 0, []⟩,
    ⟨some 15, .slice 1 (.t 14) (some (.c (.int .i64 1))) none none, none, 0, []⟩,
    ⟨some 16, .append 1 8 (.c (.sl none 0 0 0)) (.t 15), none, 0, []⟩,
    ⟨some 17, .nilck (.t 10), none, 0, []⟩,
    ⟨some 18, .fad 1 (.t 17), none, 0, []⟩,
    ⟨none, .store 1 (.t 18) (.t 16), none, 0, []⟩])
  (.skip)))
  (.reg false [] [⟨some 19, .mv (.t 0), none, 0, []⟩,
    ⟨some 20, .mv (.t 0), none, 0, []⟩,
    ⟨some 21, .nilck (.t 20), none, 0, []⟩,
    ⟨some 22, .fad 1 (.t 21), none, 0, []⟩,
    ⟨some 23, .load none (.t 22), none, 0, []⟩,
    ⟨some 24, .mv (.t 1), none, 0, []⟩,
    ⟨some 25, .build [.nilfn] [(0, 1, (.t 24))], none, 0, []⟩,
    ⟨some 26, .bslice 1 [.nilfn] 1 [(0, (.t 25))], none, 0, []⟩,
    ⟨some 27, .append 1 8 (.t 23) (.t 26), none, 0, []⟩,
    ⟨some 28, .nilck (.t 19), none, 0, []⟩,
    ⟨some 29, .fad 1 (.t 28), none, 0, []⟩,
    ⟨none, .store 1 (.t 29) (.t 27), none, 0, []⟩])⟩

/-- (*burin/doc.Doc).is -/
def doc_Doc_is : AFun := ⟨2, 16, true, [.t 4],
  .seq (.reg false [0, 1] [⟨some 4, .mv (.c (.bool false)), none, 0, []⟩])
  (.seq (.reg false [4] [⟨some 5, .mv (.t 1), none, 0, []⟩,
    ⟨some 6, .bin .geq .num (.t 5) (.c (.int .i64 0)), none, 0, []⟩,
    ⟨some 7, .mv (.t 6), none, 0, []⟩,
    ⟨some 8, .mv (.t 1), some (7, true), 0, []⟩,
    ⟨some 9, .mv (.t 0), some (7, true), 0, []⟩,
    ⟨some 10, .nilck (.t 9), some (7, true), 0, []⟩,
    ⟨some 11, .fad 0 (.t 10), some (7, true), 0, []⟩,
    ⟨some 12, .load none (.t 11), some (7, true), 0, []⟩,
    ⟨some 13, .len none (.t 12), some (7, true), 0, []⟩,
    ⟨some 14, .bin .lss .num (.t 8) (.t 13), some (7, true), 0, []⟩,
    ⟨some 15, .pick (.t 7) (.t 14) (.c (.bool false)), none, 0, []⟩,
    ⟨some 4, .mv (.t 15), none, 0, []⟩])
  (.ret))⟩

/-- (*burin/doc.Doc).NewPage -/
def doc_Doc_NewPage : AFun := ⟨3, 42, true, [.t 6, .t 7],
  .seq (.reg false [1, 2, 3] [⟨some 3, .box 1 (.t 0), none, 0, []⟩,
    ⟨some 6, .mv (.c (.int .i64 0)), none, 0, []⟩,
    ⟨some 7, .mv (.c (.int .i64 0)), none, 0, []⟩])
  (.seq (.reg false [3, 8, 9] [⟨some 12, .mv (.t 1), none, 0, []⟩,
    ⟨some 13, .mv (.t 2), none, 0, []⟩,
    ⟨some 14, .call (.f 42) [(.t 12), (.t 13)], none, 0, []⟩,
    ⟨some 11, .mv (.t 14), none, 0, []⟩,
    ⟨some 15, .ext 0 (.t 11), none, 0, []⟩,
    ⟨some 16, .ext 1 (.t 11), none, 0, []⟩,
    ⟨some 8, .mv (.t 15), none, 0, []⟩,
    ⟨some 9, .mv (.t 16), none, 0, []⟩])
  (.seq (.seq (.reg false [3, 8, 9, 18] [⟨some 17, .mv (.t 9), none, 0, []⟩,
    ⟨some 18, .bin .neq .num (.t 17) (.c (.int .i64 0)), none, 0, []⟩])
  (.cond (.t 18) (.seq (.reg false [6, 7] [⟨some 19, .mv (.t 9), none, 0, []⟩,
    ⟨some 20, .call (.f 129) [(.t 19)], none, 0, []⟩,
    ⟨some 6, .mv (.c (.int .i64 0)), none, 0, []⟩,
    ⟨some 7, .mv (.t 20), none, 0, []⟩])
  (.ret))
  (.skip)))
  (.seq (.reg false [3, 8, 10] [⟨some 21, .load none (.t 3), none, 0, []⟩,
    ⟨some 22, .nilck (.t 21), none, 0, []⟩,
    ⟨some 23, .fad 0 (.t 22), none, 0, []⟩,
    ⟨some 24, .load none (.t 23), none, 0, []⟩,
    ⟨some 25, .len none (.t 24), none, 0, []⟩,
    ⟨some 10, .alloc [.int .i64 0], none, 0, []⟩,
    ⟨none, .store 1 (.t 10) (.t 25), none, 0, []⟩])
  (.seq (.seq (.reg false [3, 8, 10, 27] [⟨some 26, .load none (.t 10), none, 0, []⟩,
    ⟨some 27, .bin .geq .num (.t 26) (.c (.int .i64 64)), none, 0, []⟩])
  (.cond (.t 27) (.seq (.reg false [6, 7] [⟨some 6, .mv (.c (.int .i64 0)), none, 0, []⟩,
    ⟨some 7, .mv (.c (.int .i64 181)), none, 0, []⟩])
  (.ret))
  (.skip)))
  (.seq (.reg true [3, 10] [⟨some 28, .load none (.t 3), none, 0, []⟩,
    ⟨some 29, .load none (.t 3), none, 1, []⟩,
    ⟨some 30, .nilck (.t 29), none, 2, []⟩,
    ⟨some 31, .fad 0 (.t 30), none, 3, []⟩,
    ⟨some 32, .load none (.t 31), none, 4, []⟩,
    ⟨some 33, .mv (.t 8), none, 5, []⟩,
    ⟨some 34, .bslice 1 [.ptr none] 1 [(0, (.t 33))], none, 6, []⟩,
    ⟨some 35, .append 1 8 (.t 32) (.t 34), none, 7, [0]⟩,
    ⟨some 36, .nilck (.t 28), none, 8, []⟩,
    ⟨some 37, .fad 0 (.t 36), none, 9, []⟩,
    ⟨none, .store 1 (.t 37) (.t 35), none, 10, []⟩])
  (.seq (.reg false [10] [⟨some 38, .load none (.t 3), none, 0, []⟩,
    ⟨some 39, .mkfn 132 [] [(.t 3), (.t 10)], none, 0, []⟩,
    ⟨some 40, .call (.f 130) [(.t 38), (.t 39)], none, 0, []⟩])
  (.seq (.reg false [6, 7] [⟨some 41, .load none (.t 10), none, 0, []⟩,
    ⟨some 6, .mv (.t 41), none, 0, []⟩,
    ⟨some 7, .mv (.c (.int .i64 0)), none, 0, []⟩])
  (.ret))))))))⟩

/-- (*burin/doc.Doc).NewPage$1 -/
def doc_Doc_NewPage_1 : AFun := ⟨2, 12, true, [],
  .reg true [] [⟨some 2, .load none (.t 0), none, 0, []⟩,
    ⟨some 3, .load none (.t 0), none, 1, []⟩,
    ⟨some 4, .nilck (.t 3), none, 2, []⟩,
    ⟨some 5, .fad 0 (.t 4), none, 3, []⟩,
    ⟨some 6, .load none (.t 5), none, 4, []⟩,
    ⟨some 7, .load none (.t 1), none, 5, []⟩,
    ⟨some 8, .load none (.t 1), none, 6, []⟩,
    ⟨some 9, .slice 1 (.t 6) none (some (.t 7)) (some (.t 8)), none, 7, []⟩,
    ⟨some 10, .nilck (.t 2), none, 8, []⟩,
    ⟨some 11, .fad 0 (.t 10), none, 9, []⟩,
    ⟨none, .store 1 (.t 11) (.t 9), none, 10, []⟩]⟩

/-- (*burin/doc.Doc).Pages -/
def doc_Doc_Pages : AFun := ⟨1, 8, true, [.t 2],
  .seq (.reg false [0] [⟨some 2, .mv (.c (.int .i64 0)), none, 0, []⟩])
  (.seq (.reg false [2] [⟨some 3, .mv (.t 0), none, 0, []⟩,
    ⟨some 4, .nilck (.t 3), none, 0, []⟩,
    ⟨some 5, .fad 0 (.t 4), none, 0, []⟩,
    ⟨some 6, .load none (.t 5), none, 0, []⟩,
    ⟨some 7, .len none (.t 6), none, 0, []⟩,
    ⟨some 2, .mv (.t 7), none, 0, []⟩])
  (.ret))⟩

/-- (*burin/doc.Doc).Page -/
def doc_Doc_Page : AFun := ⟨2, 19, true, [.cell 4 (some 3), .t 5],
  .seq (.reg false [0, 1, 4] [⟨some 4, .alloc [.int .i64 0, .int .i64 0, .sl none 0 0 0], none, 0, []⟩,
    ⟨some 5, .mv (.c (.int .i64 0)), none, 0, []⟩])
  (.seq (.seq (.reg false [0, 1, 4, 9] [⟨some 6, .mv (.t 0), none, 0, []⟩,
    ⟨some 7, .mv (.t 1), none, 0, []⟩,
    ⟨some 8, .call (.f 131) [(.t 6), (.t 7)], none, 0, []⟩,
    ⟨some 9, .un .not (.t 8), none, 0, []⟩])
  (.cond (.t 9) (.seq (.reg false [4, 5] [⟨some 10, .build [.int .i64 0, .int .i64 0, .sl none 0 0 0] [], none, 0, []⟩,
    ⟨none, .store 3 (.t 4) (.t 10), none, 0, []⟩,
    ⟨some 5, .mv (.c (.int .i64 182)), none, 0, []⟩])
  (.ret))
  (.skip)))
  (.seq (.reg false [4, 5] [⟨some 11, .mv (.t 0), none, 0, []⟩,
    ⟨some 12, .nilck (.t 11), none, 0, []⟩,
    ⟨some 13, .fad 0 (.t 12), none, 0, []⟩,
    ⟨some 14, .load none (.t 13), none, 0, []⟩,
    ⟨some 15, .mv (.t 1), none, 0, []⟩,
    ⟨some 16, .iad none 1 (.t 14) (.t 15), none, 0, []⟩,
    ⟨some 17, .load none (.t 16), none, 0, []⟩,
    ⟨some 18, .call (.f 45) [(.t 17)], none, 0, []⟩,
    ⟨none, .store 3 (.t 4) (.t 18), none, 0, []⟩,
    ⟨some 5, .mv (.c (.int .i64 0)), none, 0, []⟩])
  (.ret)))⟩

/-- (*burin/doc.Doc).kept -/
def doc_Doc_kept : AFun := ⟨2, 15, true, [.t 4],
  .seq (.reg false [2, 3] [⟨some 2, .box 1 (.t 0), none, 0, []⟩,
    ⟨some 3, .box 1 (.t 1), none, 0, []⟩,
    ⟨some 4, .mv (.c .nilfn), none, 0, []⟩])
  (.seq (.reg true [2, 3, 5] [⟨some 6, .load none (.t 2), none, 0, []⟩,
    ⟨some 7, .nilck (.t 6), none, 1, []⟩,
    ⟨some 8, .fad 0 (.t 7), none, 2, []⟩,
    ⟨some 9, .load none (.t 8), none, 3, []⟩,
    ⟨some 10, .load none (.t 3), none, 4, []⟩,
    ⟨some 11, .iad none 1 (.t 9) (.t 10), none, 5, []⟩,
    ⟨some 12, .load none (.t 11), none, 6, []⟩,
    ⟨some 5, .alloc [.int .i64 0, .int .i64 0, .sl none 0 0 0], none, 8, []⟩,
    ⟨some 13, .call (.f 45) [(.t 12)], none, 7, [8]⟩,
    ⟨none, .store 3 (.t 5) (.t 13), none, 9, []⟩])
  (.seq (.reg false [4] [⟨some 14, .mkfn 136 [] [(.t 5), (.t 2), (.t 3)], none, 0, []⟩,
    ⟨some 4, .mv (.t 14), none, 0, []⟩])
  (.ret)))⟩

/-- (*burin/doc.Doc).kept$1 -/
def doc_Doc_kept_1 : AFun := ⟨3, 19, true, [],
  .seq (.reg false [1, 2, 3, 4] [⟨some 6, .load (some 3) (.t 0), none, 0, []⟩,
    ⟨some 7, .call (.f 44) [(.t 6)], none, 0, []⟩,
    ⟨some 5, .mv (.t 7), none, 0, []⟩,
    ⟨some 8, .ext 0 (.t 5), none, 0, []⟩,
    ⟨some 9, .ext 1 (.t 5), none, 0, []⟩,
    ⟨some 3, .mv (.t 8), none, 0, []⟩,
    ⟨some 4, .mv (.t 9), none, 0, []⟩])
  (.seq (.reg false [1, 2, 3, 11] [⟨some 10, .mv (.t 4), none, 0, []⟩,
    ⟨some 11, .bin .eql .num (.t 10) (.c (.int .i64 0)), none, 0, []⟩])
  (.cond (.t 11) (.reg true [] [⟨some 12, .load none (.t 1), none, 0, []⟩,
    ⟨some 13, .nilck (.t 12), none, 1, []⟩,
    ⟨some 14, .fad 0 (.t 13), none, 2, []⟩,
    ⟨some 15, .load none (.t 14), none, 3, []⟩,
    ⟨some 16, .load none (.t 2), none, 4, []⟩,
    ⟨some 17, .mv (.t 3), none, 5, []⟩,
    ⟨some 18, .iad none 1 (.t 15) (.t 16), none, 6, []⟩,
    ⟨none, .store 1 (.t 18) (.t 17), none, 7, []⟩])
  (.skip)))⟩

/-- (*burin/doc.Doc).draw -/
def doc_Doc_draw : AFun := ⟨3, 32, true, [.t 6],
  .seq (.reg false [0, 1, 2] [⟨some 6, .mv (.c (.int .i64 0)), none, 0, []⟩])
  (.seq (.seq (.reg false [0, 1, 2, 12] [⟨some 9, .mv (.t 0), none, 0, []⟩,
    ⟨some 10, .mv (.t 1), none, 0, []⟩,
    ⟨some 11, .call (.f 131) [(.t 9), (.t 10)], none, 0, []⟩,
    ⟨some 12, .un .not (.t 11), none, 0, []⟩])
  (.cond (.t 12) (.seq (.reg false [6] [⟨some 6, .mv (.c (.int .i64 182)), none, 0, []⟩])
  (.ret))
  (.skip)))
  (.seq (.reg false [0, 1, 2, 7] [⟨some 13, .mv (.t 0), none, 0, []⟩,
    ⟨some 14, .mv (.t 1), none, 0, []⟩,
    ⟨some 15, .call (.f 137) [(.t 13), (.t 14)], none, 0, []⟩,
    ⟨some 7, .mv (.t 15), none, 0, []⟩])
  (.seq (.seq (.reg false [0, 7, 8] [⟨some 16, .mv (.t 2), none, 0, []⟩,
    ⟨some 17, .mv (.t 0), none, 0, []⟩,
    ⟨some 18, .nilck (.t 17), none, 0, []⟩,
    ⟨some 19, .fad 0 (.t 18), none, 0, []⟩,
    ⟨some 20, .load none (.t 19), none, 0, []⟩,
    ⟨some 21, .mv (.t 1), none, 0, []⟩,
    ⟨some 22, .iad none 1 (.t 20) (.t 21), none, 0, []⟩,
    ⟨some 23, .load none (.t 22), none, 0, []⟩,
    ⟨some 24, .call (.t 16) [(.t 23)], none, 0, []⟩,
    ⟨some 8, .mv (.t 24), none, 0, []⟩])
  (.seq (.reg false [0, 7, 8, 26] [⟨some 25, .mv (.t 8), none, 0, []⟩,
    ⟨some 26, .bin .neq .num (.t 25) (.c (.int .i64 0)), none, 0, []⟩])
  (.cond (.t 26) (.seq (.reg false [6] [⟨some 27, .mv (.t 8), none, 0, []⟩,
    ⟨some 28, .call (.f 129) [(.t 27)], none, 0, []⟩,
    ⟨some 6, .mv (.t 28), none, 0, []⟩])
  (.ret))
  (.skip))))
  (.seq (.reg false [] [⟨some 29, .mv (.t 0), none, 0, []⟩,
    ⟨some 30, .mv (.t 7), none, 0, []⟩,
    ⟨some 31, .call (.f 130) [(.t 29), (.t 30)], none, 0, []⟩])
  (.seq (.reg false [6] [⟨some 6, .mv (.c (.int .i64 0)), none, 0, []⟩])
  (.ret))))))⟩

/-- (*burin/doc.Doc).Set -/
def doc_Doc_Set : AFun := ⟨5, 15, true, [.t 10],
  .seq (.reg false [0, 1, 7, 8, 9] [⟨some 7, .box 1 (.t 2), none, 0, []⟩,
    ⟨some 8, .box 1 (.t 3), none, 0, []⟩,
    ⟨some 9, .box 1 (.t 4), none, 0, []⟩,
    ⟨some 10, .mv (.c (.int .i64 0)), none, 0, []⟩])
  (.seq (.reg false [10] [⟨some 11, .mv (.t 0), none, 0, []⟩,
    ⟨some 12, .mv (.t 1), none, 0, []⟩,
    ⟨some 13, .mkfn 139 [] [(.t 7), (.t 8), (.t 9)], none, 0, []⟩,
    ⟨some 14, .call (.f 138) [(.t 11), (.t 12), (.t 13)], none, 0, []⟩,
    ⟨some 10, .mv (.t 14), none, 0, []⟩])
  (.ret))⟩

/-- (*burin/doc.Doc).Set$1 -/
def doc_Doc_Set_1 : AFun := ⟨4, 11, true, [.t 5],
  .seq (.reg false [0, 1, 2, 3] [⟨some 5, .mv (.c (.int .i64 0)), none, 0, []⟩])
  (.seq (.reg false [5] [⟨some 6, .mv (.t 0), none, 0, []⟩,
    ⟨some 7, .load none (.t 1), none, 0, []⟩,
    ⟨some 8, .load none (.t 2), none, 0, []⟩,
    ⟨some 9, .load none (.t 3), none, 0, []⟩,
    ⟨some 10, .call (.f 50) [(.t 6), (.t 7), (.t 8), (.t 9)], none, 0, []⟩,
    ⟨some 5, .mv (.t 10), none, 0, []⟩])
  (.ret))⟩

/-- (*burin/doc.Doc).Fill -/
def doc_Doc_Fill : AFun := ⟨7, 19, true, [.t 14],
  .seq (.reg false [0, 1, 9, 10, 11, 12, 13] [⟨some 9, .box 1 (.t 2), none, 0, []⟩,
    ⟨some 10, .box 1 (.t 3), none, 0, []⟩,
    ⟨some 11, .box 1 (.t 4), none, 0, []⟩,
    ⟨some 12, .box 1 (.t 5), none, 0, []⟩,
    ⟨some 13, .box 1 (.t 6), none, 0, []⟩,
    ⟨some 14, .mv (.c (.int .i64 0)), none, 0, []⟩])
  (.seq (.reg false [14] [⟨some 15, .mv (.t 0), none, 0, []⟩,
    ⟨some 16, .mv (.t 1), none, 0, []⟩,
    ⟨some 17, .mkfn 141 [] [(.t 9), (.t 10), (.t 11), (.t 12), (.t 13)], none, 0, []⟩,
    ⟨some 18, .call (.f 138) [(.t 15), (.t 16), (.t 17)], none, 0, []⟩,
    ⟨some 14, .mv (.t 18), none, 0, []⟩])
  (.ret))⟩

/-- (*burin/doc.Doc).Fill$1 -/
def doc_Doc_Fill_1 : AFun := ⟨6, 15, true, [.t 7],
  .seq (.reg false [0, 1, 2, 3, 4, 5] [⟨some 7, .mv (.c (.int .i64 0)), none, 0, []⟩])
  (.seq (.reg false [7] [⟨some 8, .mv (.t 0), none, 0, []⟩,
    ⟨some 9, .load none (.t 1), none, 0, []⟩,
    ⟨some 10, .load none (.t 2), none, 0, []⟩,
    ⟨some 11, .load none (.t 3), none, 0, []⟩,
    ⟨some 12, .load none (.t 4), none, 0, []⟩,
    ⟨some 13, .load none (.t 5), none, 0, []⟩,
    ⟨some 14, .call (.f 56) [(.t 8), (.t 9), (.t 10), (.t 11), (.t 12), (.t 13)], none, 0, []⟩,
    ⟨some 7, .mv (.t 14), none, 0, []⟩])
  (.ret))⟩

/-- (*burin/doc.Doc).Blit -/
def doc_Doc_Blit : AFun := ⟨10, 29, true, [.t 20],
  .seq (.reg false [6, 10, 11, 12, 13, 14, 15, 17, 18, 19] [⟨some 10, .box 1 (.t 0), none, 0, []⟩,
    ⟨some 11, .box 1 (.t 1), none, 0, []⟩,
    ⟨some 12, .box 1 (.t 2), none, 0, []⟩,
    ⟨some 13, .box 1 (.t 3), none, 0, []⟩,
    ⟨some 14, .box 1 (.t 4), none, 0, []⟩,
    ⟨some 15, .box 1 (.t 5), none, 0, []⟩,
    ⟨some 17, .box 1 (.t 7), none, 0, []⟩,
    ⟨some 18, .box 1 (.t 8), none, 0, []⟩,
    ⟨some 19, .box 1 (.t 9), none, 0, []⟩,
    ⟨some 20, .mv (.c (.int .i64 0)), none, 0, []⟩])
  (.seq (.seq (.reg false [6, 10, 11, 12, 13, 14, 15, 17, 18, 19, 24] [⟨some 21, .load none (.t 10), none, 0, []⟩,
    ⟨some 22, .load none (.t 11), none, 0, []⟩,
    ⟨some 23, .call (.f 131) [(.t 21), (.t 22)], none, 0, []⟩,
    ⟨some 24, .un .not (.t 23), none, 0, []⟩])
  (.cond (.t 24) (.seq (.reg false [20] [⟨some 20, .mv (.c (.int .i64 182)), none, 0, []⟩])
  (.ret))
  (.skip)))
  (.seq (.reg false [20] [⟨some 25, .load none (.t 10), none, 0, []⟩,
    ⟨some 26, .mv (.t 6), none, 0, []⟩,
    ⟨some 27, .mkfn 143 [] [(.t 10), (.t 11), (.t 12), (.t 13), (.t 14), (.t 15), (.t 17), (.t 18), (.t 19)], none, 0, []⟩,
    ⟨some 28, .call (.f 138) [(.t 25), (.t 26), (.t 27)], none, 0, []⟩,
    ⟨some 20, .mv (.t 28), none, 0, []⟩])
  (.ret)))⟩

/-- (*burin/doc.Doc).Blit$1 -/
def doc_Doc_Blit_1 : AFun := ⟨10, 28, true, [.t 11],
  .seq (.reg false [0, 1, 2, 3, 4, 5, 6, 7, 8, 9] [⟨some 11, .mv (.c (.int .i64 0)), none, 0, []⟩])
  (.seq (.reg true [11] [⟨some 12, .mv (.t 0), none, 0, []⟩,
    ⟨some 13, .load none (.t 1), none, 1, []⟩,
    ⟨some 14, .nilck (.t 13), none, 2, []⟩,
    ⟨some 15, .fad 0 (.t 14), none, 3, []⟩,
    ⟨some 16, .load none (.t 15), none, 4, []⟩,
    ⟨some 17, .load none (.t 2), none, 5, []⟩,
    ⟨some 18, .iad none 1 (.t 16) (.t 17), none, 6, []⟩,
    ⟨some 19, .load none (.t 18), none, 7, []⟩,
    ⟨some 20, .load none (.t 3), none, 8, []⟩,
    ⟨some 21, .load none (.t 4), none, 9, []⟩,
    ⟨some 22, .load none (.t 5), none, 10, []⟩,
    ⟨some 23, .load none (.t 6), none, 11, []⟩,
    ⟨some 24, .load none (.t 7), none, 12, []⟩,
    ⟨some 25, .load none (.t 8), none, 13, []⟩,
    ⟨some 26, .load none (.t 9), none, 14, []⟩,
    ⟨some 27, .call (.f 64) [(.t 12), (.t 19), (.t 20), (.t 21), (.t 22), (.t 23), (.t 24), (.t 25), (.t 26)], none, 15, []⟩,
    ⟨some 11, .mv (.t 27), none, 16, []⟩])
  (.ret))⟩

/-- (*burin/doc.Doc).Undo -/
def doc_Doc_Undo : AFun := ⟨1, 30, true, [.t 2],
  .seq (.reg false [0] [⟨some 2, .mv (.c (.bool false)), none, 0, []⟩])
  (.seq (.reg false [0, 3] [⟨some 4, .mv (.t 0), none, 0, []⟩,
    ⟨some 5, .nilck (.t 4), none, 0, []⟩,
    ⟨some 6, .fad 1 (.t 5), none, 0, []⟩,
    ⟨some 7, .load none (.t 6), none, 0, []⟩,
    ⟨some 8, .len none (.t 7), none, 0, []⟩,
    ⟨some 9, .bin .sub .num (.t 8) (.c (.int .i64 1)), none, 0, []⟩,
    ⟨some 3, .mv (.t 9), none, 0, []⟩])
  (.seq (.seq (.reg false [0, 3, 11] [⟨some 10, .mv (.t 3), none, 0, []⟩,
    ⟨some 11, .bin .lss .num (.t 10) (.c (.int .i64 0)), none, 0, []⟩])
  (.cond (.t 11) (.seq (.reg false [2] [⟨some 2, .mv (.c (.bool false)), none, 0, []⟩])
  (.ret))
  (.skip)))
  (.seq (.reg false [0, 3] [⟨some 12, .mv (.t 0), none, 0, []⟩,
    ⟨some 13, .nilck (.t 12), none, 0, []⟩,
    ⟨some 14, .fad 1 (.t 13), none, 0, []⟩,
    ⟨some 15, .load none (.t 14), none, 0, []⟩,
    ⟨some 16, .mv (.t 3), none, 0, []⟩,
    ⟨some 17, .iad none 1 (.t 15) (.t 16), none, 0, []⟩,
    ⟨some 18, .fad 0 (.t 17), none, 0, []⟩,
    ⟨some 19, .load none (.t 18), none, 0, []⟩,
    ⟨some 20, .call (.t 19) [], none, 0, []⟩])
  (.seq (.reg false [] [⟨some 21, .mv (.t 0), none, 0, []⟩,
    ⟨some 22, .mv (.t 0), none, 0, []⟩,
    ⟨some 23, .nilck (.t 22), none, 0, []⟩,
    ⟨some 24, .fad 1 (.t 23), none, 0, []⟩,
    ⟨some 25, .load none (.t 24), none, 0, []⟩,
    ⟨some 26, .mv (.t 3), none, 0, []⟩,
    ⟨some 27, .slice 1 (.t 25) none (some (.t 26)) none, none, 0, []⟩,
    ⟨some 28, .nilck (.t 21), none, 0, []⟩,
    ⟨some 29, .fad 1 (.t 28), none, 0, []⟩,
    ⟨none, .store 1 (.t 29) (.t 27), none, 0, []⟩])
  (.seq (.reg false [2] [⟨some 2, .mv (.c (.bool true)), none, 0, []⟩])
  (.ret))))))⟩

/-- burin/burinlaw20.wakes -/
def burinlaw20_wakes : AFun := ⟨0, 56, true, [.t 0],
  .seq (.reg false [] [⟨some 0, .mv (.c (.bool false)), none, 0, []⟩])
  (.seq (.reg false [1] [⟨some 6, .call (.f 128) [], none, 0, []⟩,
    ⟨some 1, .mv (.t 6), none, 0, []⟩])
  (.seq (.seq (.reg false [1, 8] [⟨some 7, .mv (.t 1), none, 0, []⟩,
    ⟨some 8, .bin .eql .ptr (.t 7) (.c (.ptr none)), none, 0, []⟩])
  (.cond (.t 8) (.seq (.reg false [0] [⟨some 0, .mv (.c (.bool false)), none, 0, []⟩])
  (.ret))
  (.skip)))
  (.seq (.reg false [1, 2, 3] [⟨some 10, .mv (.t 1), none, 0, []⟩,
    ⟨some 11, .call (.f 133) [(.t 10), (.c (.int .i64 3)), (.c (.int .i64 2))], none, 0, []⟩,
    ⟨some 9, .mv (.t 11), none, 0, []⟩,
    ⟨some 12, .ext 0 (.t 9), none, 0, []⟩,
    ⟨some 13, .ext 1 (.t 9), none, 0, []⟩,
    ⟨some 2, .mv (.t 12), none, 0, []⟩,
    ⟨some 3, .mv (.t 13), none, 0, []⟩])
  (.seq (.seq (.reg false [1, 24] [⟨some 14, .mv (.t 2), none, 0, []⟩,
    ⟨some 15, .bin .neq .num (.t 14) (.c (.int .i64 0)), none, 0, []⟩,
    ⟨some 16, .mv (.t 15), none, 0, []⟩,
    ⟨some 17, .mv (.t 3), some (16, false), 0, []⟩,
    ⟨some 18, .bin .neq .num (.t 17) (.c (.int .i64 0)), some (16, false), 0, []⟩,
    ⟨some 19, .pick (.t 16) (.c (.bool true)) (.t 18), none, 0, []⟩,
    ⟨some 20, .mv (.t 19), none, 0, []⟩,
    ⟨some 21, .mv (.t 1), some (20, false), 0, []⟩,
    ⟨some 22, .call (.f 140) [(.t 21), (.c (.int .i64 0)), (.c (.int .i64 1)), (.c (.int .i64 0)), (.c (.int .i64 1))], some (20, false), 0, []⟩,
    ⟨some 23, .bin .neq .num (.t 22) (.c (.int .i64 0)), some (20, false), 0, []⟩,
    ⟨some 24, .pick (.t 20) (.c (.bool true)) (.t 23), none, 0, []⟩])
  (.cond (.t 24) (.seq (.reg false [0] [⟨some 0, .mv (.c (.bool false)), none, 0, []⟩])
  (.ret))
  (.skip)))
  (.seq (.reg false [1, 4, 5] [⟨some 26, .mv (.t 1), none, 0, []⟩,
    ⟨some 27, .call (.f 135) [(.t 26), (.c (.int .i64 0))], none, 0, []⟩,
    ⟨some 25, .mv (.t 27), none, 0, []⟩,
    ⟨some 28, .ext 0 (.t 25), none, 0, []⟩,
    ⟨some 29, .ext 1 (.t 25), none, 0, []⟩,
    ⟨some 4, .alloc [.int .i64 0, .int .i64 0, .sl none 0 0 0], none, 0, []⟩,
    ⟨none, .store 3 (.t 4) (.t 28), none, 0, []⟩,
    ⟨some 5, .mv (.t 29), none, 0, []⟩])
  (.seq (.reg false [0] [⟨some 30, .mv (.t 5), none, 0, []⟩,
    ⟨some 31, .bin .eql .num (.t 30) (.c (.int .i64 0)), none, 0, []⟩,
    ⟨some 32, .mv (.t 31), none, 0, []⟩,
    ⟨some 33, .load (some 3) (.t 4), some (32, true), 0, []⟩,
    ⟨some 34, .bslice 1 [.int .u64 0] 2 [(0, (.c (.int .u64 4611686018427387904))), (1, (.c (.int .u64 0)))], some (32, true), 0, []⟩,
    ⟨some 35, .build [.int .i64 0, .int .i64 0, .sl none 0 0 0] [(0, 1, (.c (.int .i64 3))), (1, 1, (.c (.int .i64 2))), (2, 1, (.t 34))], some (32, true), 0, []⟩,
    ⟨some 36, .call (.f 84) [(.t 33), (.t 35)], some (32, true), 0, []⟩,
    ⟨some 37, .pick (.t 32) (.t 36) (.c (.bool false)), none, 0, []⟩,
    ⟨some 38, .mv (.t 37), none, 0, []⟩,
    ⟨some 39, .mv (.t 1), some (38, true), 0, []⟩,
    ⟨some 40, .call (.f 145) [(.t 39)], some (38, true), 0, []⟩,
    ⟨some 41, .pick (.t 38) (.t 40) (.c (.bool false)), none, 0, []⟩,
    ⟨some 42, .mv (.t 41), none, 0, []⟩,
    ⟨some 43, .mv (.t 1), some (42, true), 0, []⟩,
    ⟨some 44, .call (.f 145) [(.t 43)], some (42, true), 0, []⟩,
    ⟨some 45, .pick (.t 42) (.t 44) (.c (.bool false)), none, 0, []⟩,
    ⟨some 46, .mv (.t 45), none, 0, []⟩,
    ⟨some 47, .mv (.t 1), some (46, true), 0, []⟩,
    ⟨some 48, .call (.f 145) [(.t 47)], some (46, true), 0, []⟩,
    ⟨some 49, .un .not (.t 48), some (46, true), 0, []⟩,
    ⟨some 50, .pick (.t 46) (.t 49) (.c (.bool false)), none, 0, []⟩,
    ⟨some 51, .mv (.t 50), none, 0, []⟩,
    ⟨some 52, .mv (.t 1), some (51, true), 0, []⟩,
    ⟨some 53, .call (.f 134) [(.t 52)], some (51, true), 0, []⟩,
    ⟨some 54, .bin .eql .num (.t 53) (.c (.int .i64 0)), some (51, true), 0, []⟩,
    ⟨some 55, .pick (.t 51) (.t 54) (.c (.bool false)), none, 0, []⟩,
    ⟨some 0, .mv (.t 55), none, 0, []⟩])
  (.ret)))))))⟩

/-- A program that has them. -/
structure HasDoc (P : Prog) : Prop where
  h_doc_New : P 128 = some doc_New
  h_doc_told : P 129 = some doc_told
  h_doc_Doc_done : P 130 = some doc_Doc_done
  h_doc_Doc_is : P 131 = some doc_Doc_is
  h_doc_Doc_NewPage : P 133 = some doc_Doc_NewPage
  h_doc_Doc_NewPage_1 : P 132 = some doc_Doc_NewPage_1
  h_doc_Doc_Pages : P 134 = some doc_Doc_Pages
  h_doc_Doc_Page : P 135 = some doc_Doc_Page
  h_doc_Doc_kept : P 137 = some doc_Doc_kept
  h_doc_Doc_kept_1 : P 136 = some doc_Doc_kept_1
  h_doc_Doc_draw : P 138 = some doc_Doc_draw
  h_doc_Doc_Set : P 140 = some doc_Doc_Set
  h_doc_Doc_Set_1 : P 139 = some doc_Doc_Set_1
  h_doc_Doc_Fill : P 142 = some doc_Doc_Fill
  h_doc_Doc_Fill_1 : P 141 = some doc_Doc_Fill_1
  h_doc_Doc_Blit : P 144 = some doc_Doc_Blit
  h_doc_Doc_Blit_1 : P 143 = some doc_Doc_Blit_1
  h_doc_Doc_Undo : P 145 = some doc_Doc_Undo
  h_burinlaw20_wakes : P 146 = some burinlaw20_wakes

end Go.Ab
