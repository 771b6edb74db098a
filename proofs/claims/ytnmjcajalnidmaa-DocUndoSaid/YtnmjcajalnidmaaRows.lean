/-
  No cell of these rows narrows 'for every input' (looked for: loops, veiled, ifaces, maps, wideKeys, modest, calm, conditions, laid).
  DERIVED. THE GIVEN ROWS OF THIS SEAT. 3 by the template 'for every input the law returns true; each argument reads behind the call as it read before'; 0 by the template 'total and deterministic' (their statements: YtnmjcajalnidmaaTotals.lean).
  GIVEN WITH THE SEED: the statements are not yours to turn. If you find one false, say at which input.
  Laid BY PROGRAM, IN A SANDBOX (cutbox-rows.mjs): the forced cells as the released guide's own fill.sh prints them over the translation b38713ea7a9c3fe5… (all of the seat's roots in one cut). By AI agents, Wed Nov 11 2026. No macro, syntax, notation, axiom, sorry.
-/
import Derived.Test.YtnmjcajalnidmaaChecked
import GoSem.Claim
import GoSem.ClaimJoined
import GoSem.ClaimMapViews
import Derived.JoinedTies
import Derived.KernelRfl
namespace Go.Proofs.Ytnmjcajalnidmaa
/- THE CELL 'sum', in the pinned program and in every row, IS THE sha256 OF THE DUMP (.gsa) THAT YtnmjcajalnidmaaProg.lean LOADS. Nothing in Lean hashes anything: it is a label: what it is worth is what the hold of that sum in a sandbox is worth. -/
noncomputable def Try.pinned : Pinned := { name := "ytnmjcajalnidmaa", sum := "b38713ea7a9c3fe563710538ceeb6ca3fcee50031a6ad31c8eeca2e1080debc5", checked := Try.checked }
namespace Rows
def none {H : Type} : Left H := { results := [], args := [] }

/-- 'burinlaw20.DocSizes': WHATEVER THE INPUT: true; the input reads as it did. -/
def docSizesSpec : ChangeSpec := { name := "docSizes", fn := fun _ => fun
  | [d] => { results := [.lit (.bool true)], args := [d] }
  | _ => none }
def docSizesRow : OpenClaim := { program := "ytnmjcajalnidmaa", sum := "b38713ea7a9c3fe563710538ceeb6ca3fcee50031a6ad31c8eeca2e1080debc5", func := "burin/burinlaw20.DocSizes", spec := "docSizes", unfollowed := true, recurses := true, apart := false }
def DocSizesSaid : Prop := docSizesRow.holds Try.pinned (OpenSpec.ofChange docSizesSpec)

/-- ITS FALSE NEIGHBOUR: 'it returns false'. Refute it at one input. -/
def docSizesWrong : ChangeSpec := { name := "docSizes", fn := fun _ => fun
  | [d] => { results := [.lit (.bool false)], args := [d] }
  | _ => none }
def DocSizesWrongFalsely : Prop := docSizesRow.holds Try.pinned (OpenSpec.ofChange docSizesWrong)

/-- 'burinlaw20.DocUndo': WHATEVER THE INPUT: true; the input reads as it did. -/
def docUndoSpec : ChangeSpec := { name := "docUndo", fn := fun _ => fun
  | [d] => { results := [.lit (.bool true)], args := [d] }
  | _ => none }
def docUndoRow : OpenClaim := { program := "ytnmjcajalnidmaa", sum := "b38713ea7a9c3fe563710538ceeb6ca3fcee50031a6ad31c8eeca2e1080debc5", func := "burin/burinlaw20.DocUndo", spec := "docUndo", unfollowed := true, recurses := true, apart := false }
def DocUndoSaid : Prop := docUndoRow.holds Try.pinned (OpenSpec.ofChange docUndoSpec)

/-- ITS FALSE NEIGHBOUR: 'it returns false'. Refute it at one input. -/
def docUndoWrong : ChangeSpec := { name := "docUndo", fn := fun _ => fun
  | [d] => { results := [.lit (.bool false)], args := [d] }
  | _ => none }
def DocUndoWrongFalsely : Prop := docUndoRow.holds Try.pinned (OpenSpec.ofChange docUndoWrong)

/-- 'burinlaw20.DocAlike': WHATEVER THE INPUT: true; the input reads as it did. -/
def docAlikeSpec : ChangeSpec := { name := "docAlike", fn := fun _ => fun
  | [d] => { results := [.lit (.bool true)], args := [d] }
  | _ => none }
def docAlikeRow : OpenClaim := { program := "ytnmjcajalnidmaa", sum := "b38713ea7a9c3fe563710538ceeb6ca3fcee50031a6ad31c8eeca2e1080debc5", func := "burin/burinlaw20.DocAlike", spec := "docAlike", unfollowed := true, recurses := true, apart := false }
def DocAlikeSaid : Prop := docAlikeRow.holds Try.pinned (OpenSpec.ofChange docAlikeSpec)

/-- ITS FALSE NEIGHBOUR: 'it returns false'. Refute it at one input. -/
def docAlikeWrong : ChangeSpec := { name := "docAlike", fn := fun _ => fun
  | [d] => { results := [.lit (.bool false)], args := [d] }
  | _ => none }
def DocAlikeWrongFalsely : Prop := docAlikeRow.holds Try.pinned (OpenSpec.ofChange docAlikeWrong)

/- THE SECOND FORM. 'bulk': how many values and letters a reading holds, each counted each time it is reached (what is shared counts as often as it is met; a slice's spare places count too). A statement '..UptoSaid' is the law's where the arguments, and the package variables that the reading takes, are together of bulk at most 1048576: NARROWER than '..Said'. Prove '..Said' where nothing that the law and all that it calls make is longer than what came in: it says more and counts as full. Else prove '..UptoSaid'. A law counts once. -/
mutual
def uptoBulk {H : Type} : DataW H → Nat
  | .lit (.string bytes) => bytes.length + 1
  | .lit _ => 1
  | .nil => 1
  | .ptr d => uptoBulk d + 1
  | .slice elems spare => uptoBulkAll elems + uptoBulkAll spare + 1
  | .agg parts => uptoBulkAll parts + 1
  | .iface _ d => uptoBulk d + 1
  | .map entries => uptoBulkEntries entries + 1
  | .held _ => 1
def uptoBulkAll {H : Type} : List (DataW H) → Nat
  | [] => 0
  | d :: r => uptoBulk d + uptoBulkAll r
def uptoBulkEntries {H : Type} : List (Lit × DataW H) → Nat
  | [] => 0
  | x :: r => uptoBulkEntry x + uptoBulkEntries r
def uptoBulkEntry {H : Type} : Lit × DataW H → Nat
  | (.string bytes, d) => bytes.length + uptoBulk d + 1
  | (_, d) => uptoBulk d + 1
 end
def uptoSmall : (H : Type) → List (DataW H) → Bool := fun _ ds => decide (uptoBulkAll ds ≤ 1048576)
def OpenSpec.upto (s : _root_.Go.ChangeSpec) : _root_.Go.OpenSpec := { _root_.Go.OpenSpec.ofChange s with cond := some uptoSmall }

/-- 'burinlaw20.DocSizes', WHERE WHAT IT READS IS OF BULK AT MOST 1048576: true; the input reads as it did. -/
def docSizesUptoRow : OpenClaim := { program := "ytnmjcajalnidmaa", sum := "b38713ea7a9c3fe563710538ceeb6ca3fcee50031a6ad31c8eeca2e1080debc5", func := "burin/burinlaw20.DocSizes", spec := "docSizes", unfollowed := true, recurses := true, apart := false, narrowed := true }
def DocSizesUptoSaid : Prop := docSizesUptoRow.holds Try.pinned (OpenSpec.upto docSizesSpec)

/-- 'burinlaw20.DocUndo', WHERE WHAT IT READS IS OF BULK AT MOST 1048576: true; the input reads as it did. -/
def docUndoUptoRow : OpenClaim := { program := "ytnmjcajalnidmaa", sum := "b38713ea7a9c3fe563710538ceeb6ca3fcee50031a6ad31c8eeca2e1080debc5", func := "burin/burinlaw20.DocUndo", spec := "docUndo", unfollowed := true, recurses := true, apart := false, narrowed := true }
def DocUndoUptoSaid : Prop := docUndoUptoRow.holds Try.pinned (OpenSpec.upto docUndoSpec)

/-- 'burinlaw20.DocAlike', WHERE WHAT IT READS IS OF BULK AT MOST 1048576: true; the input reads as it did. -/
def docAlikeUptoRow : OpenClaim := { program := "ytnmjcajalnidmaa", sum := "b38713ea7a9c3fe563710538ceeb6ca3fcee50031a6ad31c8eeca2e1080debc5", func := "burin/burinlaw20.DocAlike", spec := "docAlike", unfollowed := true, recurses := true, apart := false, narrowed := true }
def DocAlikeUptoSaid : Prop := docAlikeUptoRow.holds Try.pinned (OpenSpec.upto docAlikeSpec)

end Rows
end Go.Proofs.Ytnmjcajalnidmaa
