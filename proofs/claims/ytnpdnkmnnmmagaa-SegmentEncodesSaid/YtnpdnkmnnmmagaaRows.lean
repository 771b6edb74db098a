/-
  No cell of these rows narrows 'for every input' (looked for: loops, veiled, ifaces, maps, wideKeys, modest, calm, conditions, laid).
  DERIVED. THE GIVEN ROWS OF THIS SEAT. 3 by the template 'for every input the law returns true; each argument reads behind the call as it read before'; 0 by the template 'total and deterministic' (their statements: YtnpdnkmnnmmagaaTotals.lean).
  GIVEN WITH THE SEED: the statements are not yours to turn. If you find one false, say at which input.
  Laid BY PROGRAM, IN A SANDBOX (cutbox-rows.mjs): the forced cells as the released guide's own fill.sh prints them over the translation 8436a896b24d7d7b… (all of the seat's roots in one cut). By AI agents, Wed Nov 11 2026. No macro, syntax, notation, axiom, sorry.
-/
import Derived.Test.YtnpdnkmnnmmagaaChecked
import GoSem.Claim
import GoSem.ClaimJoined
import GoSem.ClaimMapViews
import Derived.JoinedTies
import Derived.KernelRfl
namespace Go.Proofs.Ytnpdnkmnnmmagaa
/- THE CELL 'sum', in the pinned program and in every row, IS THE sha256 OF THE DUMP (.gsa) THAT YtnpdnkmnnmmagaaProg.lean LOADS. Nothing in Lean hashes anything: it is a label: what it is worth is what the hold of that sum in a sandbox is worth. -/
noncomputable def Try.pinned : Pinned := { name := "ytnpdnkmnnmmagaa", sum := "8436a896b24d7d7b8a1b74721b608d8f385f6b75f925c7a6eeda40c273ba3578", checked := Try.checked }
namespace Rows
def none {H : Type} : Left H := { results := [], args := [] }

/-- 'burinlaw16.SegmentEncodes': WHATEVER THE INPUT: true; the input reads as it did. -/
def segmentEncodesSpec : ChangeSpec := { name := "segmentEncodes", fn := fun _ => fun
  | [d] => { results := [.lit (.bool true)], args := [d] }
  | _ => none }
def segmentEncodesRow : OpenClaim := { program := "ytnpdnkmnnmmagaa", sum := "8436a896b24d7d7b8a1b74721b608d8f385f6b75f925c7a6eeda40c273ba3578", func := "burin/burinlaw16.SegmentEncodes", spec := "segmentEncodes", unfollowed := true, recurses := true, apart := false }
def SegmentEncodesSaid : Prop := segmentEncodesRow.holds Try.pinned (OpenSpec.ofChange segmentEncodesSpec)

/-- ITS FALSE NEIGHBOUR: 'it returns false'. Refute it at one input. -/
def segmentEncodesWrong : ChangeSpec := { name := "segmentEncodes", fn := fun _ => fun
  | [d] => { results := [.lit (.bool false)], args := [d] }
  | _ => none }
def SegmentEncodesWrongFalsely : Prop := segmentEncodesRow.holds Try.pinned (OpenSpec.ofChange segmentEncodesWrong)

/-- 'burinlaw16.SegmentBack': WHATEVER THE INPUT: true; the input reads as it did. -/
def segmentBackSpec : ChangeSpec := { name := "segmentBack", fn := fun _ => fun
  | [d] => { results := [.lit (.bool true)], args := [d] }
  | _ => none }
def segmentBackRow : OpenClaim := { program := "ytnpdnkmnnmmagaa", sum := "8436a896b24d7d7b8a1b74721b608d8f385f6b75f925c7a6eeda40c273ba3578", func := "burin/burinlaw16.SegmentBack", spec := "segmentBack", unfollowed := true, recurses := true, apart := false }
def SegmentBackSaid : Prop := segmentBackRow.holds Try.pinned (OpenSpec.ofChange segmentBackSpec)

/-- ITS FALSE NEIGHBOUR: 'it returns false'. Refute it at one input. -/
def segmentBackWrong : ChangeSpec := { name := "segmentBack", fn := fun _ => fun
  | [d] => { results := [.lit (.bool false)], args := [d] }
  | _ => none }
def SegmentBackWrongFalsely : Prop := segmentBackRow.holds Try.pinned (OpenSpec.ofChange segmentBackWrong)

/-- 'burinlaw16.SegmentOne': WHATEVER THE INPUT: true; the input reads as it did. -/
def segmentOneSpec : ChangeSpec := { name := "segmentOne", fn := fun _ => fun
  | [d] => { results := [.lit (.bool true)], args := [d] }
  | _ => none }
def segmentOneRow : OpenClaim := { program := "ytnpdnkmnnmmagaa", sum := "8436a896b24d7d7b8a1b74721b608d8f385f6b75f925c7a6eeda40c273ba3578", func := "burin/burinlaw16.SegmentOne", spec := "segmentOne", unfollowed := true, recurses := true, apart := false }
def SegmentOneSaid : Prop := segmentOneRow.holds Try.pinned (OpenSpec.ofChange segmentOneSpec)

/-- ITS FALSE NEIGHBOUR: 'it returns false'. Refute it at one input. -/
def segmentOneWrong : ChangeSpec := { name := "segmentOne", fn := fun _ => fun
  | [d] => { results := [.lit (.bool false)], args := [d] }
  | _ => none }
def SegmentOneWrongFalsely : Prop := segmentOneRow.holds Try.pinned (OpenSpec.ofChange segmentOneWrong)

/- THE SECOND FORM. 'bulk': how many values and letters a reading holds, each counted each time it is reached (what is shared counts as often as it is met; a slice's spare places count too). A statement '..UptoSaid' is the law's where the arguments, and the package variables that the reading takes, are together of bulk at most 1048576: NARROWER than '..Said'. Prove '..Said' where nothing that the law and all that it calls make is longer than what came in: it says more and counts as full. Else prove '..UptoSaid'. A law counts once. -/
mutual
def uptoBulk {H : Type} : DataW H → Nat
  | .lit (.string bytes) => bytes.length + 1
  | .lit _ => 1
  | .nil => 1
  | .ptr d => uptoBulk d + 1
  | .slice elems spare => uptoBulkAll elems + uptoBulkAll spare + 1
  | .agg parts => uptoBulkAll parts + 1
  | .iface _ d => uptoBulk d + 1
  | .map entries => uptoBulkEntries entries + 1
  | .held _ => 1
def uptoBulkAll {H : Type} : List (DataW H) → Nat
  | [] => 0
  | d :: r => uptoBulk d + uptoBulkAll r
def uptoBulkEntries {H : Type} : List (Lit × DataW H) → Nat
  | [] => 0
  | x :: r => uptoBulkEntry x + uptoBulkEntries r
def uptoBulkEntry {H : Type} : Lit × DataW H → Nat
  | (.string bytes, d) => bytes.length + uptoBulk d + 1
  | (_, d) => uptoBulk d + 1
 end
def uptoSmall : (H : Type) → List (DataW H) → Bool := fun _ ds => decide (uptoBulkAll ds ≤ 1048576)
def OpenSpec.upto (s : _root_.Go.ChangeSpec) : _root_.Go.OpenSpec := { _root_.Go.OpenSpec.ofChange s with cond := some uptoSmall }

/-- 'burinlaw16.SegmentEncodes', WHERE WHAT IT READS IS OF BULK AT MOST 1048576: true; the input reads as it did. -/
def segmentEncodesUptoRow : OpenClaim := { program := "ytnpdnkmnnmmagaa", sum := "8436a896b24d7d7b8a1b74721b608d8f385f6b75f925c7a6eeda40c273ba3578", func := "burin/burinlaw16.SegmentEncodes", spec := "segmentEncodes", unfollowed := true, recurses := true, apart := false, narrowed := true }
def SegmentEncodesUptoSaid : Prop := segmentEncodesUptoRow.holds Try.pinned (OpenSpec.upto segmentEncodesSpec)

/-- 'burinlaw16.SegmentBack', WHERE WHAT IT READS IS OF BULK AT MOST 1048576: true; the input reads as it did. -/
def segmentBackUptoRow : OpenClaim := { program := "ytnpdnkmnnmmagaa", sum := "8436a896b24d7d7b8a1b74721b608d8f385f6b75f925c7a6eeda40c273ba3578", func := "burin/burinlaw16.SegmentBack", spec := "segmentBack", unfollowed := true, recurses := true, apart := false, narrowed := true }
def SegmentBackUptoSaid : Prop := segmentBackUptoRow.holds Try.pinned (OpenSpec.upto segmentBackSpec)

/-- 'burinlaw16.SegmentOne', WHERE WHAT IT READS IS OF BULK AT MOST 1048576: true; the input reads as it did. -/
def segmentOneUptoRow : OpenClaim := { program := "ytnpdnkmnnmmagaa", sum := "8436a896b24d7d7b8a1b74721b608d8f385f6b75f925c7a6eeda40c273ba3578", func := "burin/burinlaw16.SegmentOne", spec := "segmentOne", unfollowed := true, recurses := true, apart := false, narrowed := true }
def SegmentOneUptoSaid : Prop := segmentOneUptoRow.holds Try.pinned (OpenSpec.upto segmentOneSpec)

end Rows
end Go.Proofs.Ytnpdnkmnnmmagaa
