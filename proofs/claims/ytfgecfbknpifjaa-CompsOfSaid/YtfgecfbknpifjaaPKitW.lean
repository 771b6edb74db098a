/- The text of burinkit's Within, for the abstract machine: written by wip/tools/gen.py out of Lean's print of the translation. Conditions: none; definitions alone. -/
import Derived.Test.YtfgecfbknpifjaaK1
set_option linter.all false
namespace Go.Ab
/-- burin/burinkit.Within -/
def burinkit_Within : AFun := ⟨2, 15, true, [.t 4],
  .seq (.reg false [0, 1] [⟨some 4, .mv (.c (.int .i64 0)), none, 0, []⟩])
  (.seq (.reg false [1, 5] [⟨some 6, .mv (.t 0), none, 0, []⟩,
    ⟨some 7, .mv (.t 1), none, 0, []⟩,
    ⟨some 8, .bin .rem .num (.t 6) (.t 7), none, 0, []⟩,
    ⟨some 5, .mv (.t 8), none, 0, []⟩])
  (.seq (.seq (.reg false [1, 5, 10] [⟨some 9, .mv (.t 5), none, 0, []⟩,
    ⟨some 10, .bin .lss .num (.t 9) (.c (.int .i64 0)), none, 0, []⟩])
  (.cond (.t 10) (.reg false [5] [⟨some 11, .mv (.t 5), none, 0, []⟩,
    ⟨some 12, .mv (.t 1), none, 0, []⟩,
    ⟨some 13, .bin .add .num (.t 11) (.t 12), none, 0, []⟩,
    ⟨some 5, .mv (.t 13), none, 0, []⟩])
  (.skip)))
  (.seq (.reg false [4] [⟨some 14, .mv (.t 5), none, 0, []⟩,
    ⟨some 4, .mv (.t 14), none, 0, []⟩])
  (.ret))))⟩
end Go.Ab
