/-
  No cell of these rows narrows 'for every input' (looked for: loops, veiled, ifaces, maps, wideKeys, modest, calm, conditions, laid).
  DERIVED. THE GIVEN ROWS OF THIS SEAT. 14 by the template 'for every input the law returns true; each argument reads behind the call as it read before'; 0 by the template 'total and deterministic' (their statements: YtdkgdneiilnppaaTotals.lean).
  GIVEN WITH THE SEED: the statements are not yours to turn. If you find one false, say at which input.
  Laid BY PROGRAM, IN A SANDBOX (cutbox-rows.mjs): the forced cells as the released guide's own fill.sh prints them over the translation 5b6445130e2d54ee… (all of the seat's roots in one cut). By AI agents, Wed Nov 11 2026. No macro, syntax, notation, axiom, sorry.
-/
import Derived.Test.YtdkgdneiilnppaaChecked
import GoSem.Claim
import GoSem.ClaimJoined
import GoSem.ClaimMapViews
import Derived.JoinedTies
import Derived.KernelRfl
namespace Go.Proofs.Ytdkgdneiilnppaa
/- THE CELL 'sum', in the pinned program and in every row, IS THE sha256 OF THE DUMP (.gsa) THAT YtdkgdneiilnppaaProg.lean LOADS. Nothing in Lean hashes anything: it is a label: what it is worth is what the hold of that sum in a sandbox is worth. -/
noncomputable def Try.pinned : Pinned := { name := "ytdkgdneiilnppaa", sum := "5b6445130e2d54ee91e1c480aff7c2854f773c6d48a4f27b06cc8c23e6684b48", checked := Try.checked }
namespace Rows
def none {H : Type} : Left H := { results := [], args := [] }

/-- 'burinlaw9.RunsOf': WHATEVER THE INPUT: true; the input reads as it did. -/
def runsOfSpec : ChangeSpec := { name := "runsOf", fn := fun _ => fun
  | [d] => { results := [.lit (.bool true)], args := [d] }
  | _ => none }
def runsOfRow : OpenClaim := { program := "ytdkgdneiilnppaa", sum := "5b6445130e2d54ee91e1c480aff7c2854f773c6d48a4f27b06cc8c23e6684b48", func := "burin/burinlaw9.RunsOf", spec := "runsOf", apart := false }
def RunsOfSaid : Prop := runsOfRow.holds Try.pinned (OpenSpec.ofChange runsOfSpec)

/-- ITS FALSE NEIGHBOUR: 'it returns false'. Refute it at one input. -/
def runsOfWrong : ChangeSpec := { name := "runsOf", fn := fun _ => fun
  | [d] => { results := [.lit (.bool false)], args := [d] }
  | _ => none }
def RunsOfWrongFalsely : Prop := runsOfRow.holds Try.pinned (OpenSpec.ofChange runsOfWrong)

/-- 'burinlaw9.RunsBack': WHATEVER THE INPUT: true; the input reads as it did. -/
def runsBackSpec : ChangeSpec := { name := "runsBack", fn := fun _ => fun
  | [d] => { results := [.lit (.bool true)], args := [d] }
  | _ => none }
def runsBackRow : OpenClaim := { program := "ytdkgdneiilnppaa", sum := "5b6445130e2d54ee91e1c480aff7c2854f773c6d48a4f27b06cc8c23e6684b48", func := "burin/burinlaw9.RunsBack", spec := "runsBack", apart := false }
def RunsBackSaid : Prop := runsBackRow.holds Try.pinned (OpenSpec.ofChange runsBackSpec)

/-- ITS FALSE NEIGHBOUR: 'it returns false'. Refute it at one input. -/
def runsBackWrong : ChangeSpec := { name := "runsBack", fn := fun _ => fun
  | [d] => { results := [.lit (.bool false)], args := [d] }
  | _ => none }
def RunsBackWrongFalsely : Prop := runsBackRow.holds Try.pinned (OpenSpec.ofChange runsBackWrong)

/-- 'burinlaw9.RunsRound': WHATEVER THE INPUT: true; the input reads as it did. -/
def runsRoundSpec : ChangeSpec := { name := "runsRound", fn := fun _ => fun
  | [d] => { results := [.lit (.bool true)], args := [d] }
  | _ => none }
def runsRoundRow : OpenClaim := { program := "ytdkgdneiilnppaa", sum := "5b6445130e2d54ee91e1c480aff7c2854f773c6d48a4f27b06cc8c23e6684b48", func := "burin/burinlaw9.RunsRound", spec := "runsRound", apart := false }
def RunsRoundSaid : Prop := runsRoundRow.holds Try.pinned (OpenSpec.ofChange runsRoundSpec)

/-- ITS FALSE NEIGHBOUR: 'it returns false'. Refute it at one input. -/
def runsRoundWrong : ChangeSpec := { name := "runsRound", fn := fun _ => fun
  | [d] => { results := [.lit (.bool false)], args := [d] }
  | _ => none }
def RunsRoundWrongFalsely : Prop := runsRoundRow.holds Try.pinned (OpenSpec.ofChange runsRoundWrong)

/-- 'burinlaw9.RunsMirrored': WHATEVER THE INPUT: true; the input reads as it did. -/
def runsMirroredSpec : ChangeSpec := { name := "runsMirrored", fn := fun _ => fun
  | [d] => { results := [.lit (.bool true)], args := [d] }
  | _ => none }
def runsMirroredRow : OpenClaim := { program := "ytdkgdneiilnppaa", sum := "5b6445130e2d54ee91e1c480aff7c2854f773c6d48a4f27b06cc8c23e6684b48", func := "burin/burinlaw9.RunsMirrored", spec := "runsMirrored", apart := false }
def RunsMirroredSaid : Prop := runsMirroredRow.holds Try.pinned (OpenSpec.ofChange runsMirroredSpec)

/-- ITS FALSE NEIGHBOUR: 'it returns false'. Refute it at one input. -/
def runsMirroredWrong : ChangeSpec := { name := "runsMirrored", fn := fun _ => fun
  | [d] => { results := [.lit (.bool false)], args := [d] }
  | _ => none }
def RunsMirroredWrongFalsely : Prop := runsMirroredRow.holds Try.pinned (OpenSpec.ofChange runsMirroredWrong)

/-- 'burinlaw9.RunsTouch': WHATEVER THE INPUT: true; the input reads as it did. -/
def runsTouchSpec : ChangeSpec := { name := "runsTouch", fn := fun _ => fun
  | [d] => { results := [.lit (.bool true)], args := [d] }
  | _ => none }
def runsTouchRow : OpenClaim := { program := "ytdkgdneiilnppaa", sum := "5b6445130e2d54ee91e1c480aff7c2854f773c6d48a4f27b06cc8c23e6684b48", func := "burin/burinlaw9.RunsTouch", spec := "runsTouch", apart := false }
def RunsTouchSaid : Prop := runsTouchRow.holds Try.pinned (OpenSpec.ofChange runsTouchSpec)

/-- ITS FALSE NEIGHBOUR: 'it returns false'. Refute it at one input. -/
def runsTouchWrong : ChangeSpec := { name := "runsTouch", fn := fun _ => fun
  | [d] => { results := [.lit (.bool false)], args := [d] }
  | _ => none }
def RunsTouchWrongFalsely : Prop := runsTouchRow.holds Try.pinned (OpenSpec.ofChange runsTouchWrong)

/-- 'burinlaw2.BitmapSizes': WHATEVER THE INPUT: true; the input reads as it did. -/
def bitmapSizesSpec : ChangeSpec := { name := "bitmapSizes", fn := fun _ => fun
  | [d] => { results := [.lit (.bool true)], args := [d] }
  | _ => none }
def bitmapSizesRow : OpenClaim := { program := "ytdkgdneiilnppaa", sum := "5b6445130e2d54ee91e1c480aff7c2854f773c6d48a4f27b06cc8c23e6684b48", func := "burin/burinlaw2.BitmapSizes", spec := "bitmapSizes", unfollowed := true, recurses := true, apart := false }
def BitmapSizesSaid : Prop := bitmapSizesRow.holds Try.pinned (OpenSpec.ofChange bitmapSizesSpec)

/-- ITS FALSE NEIGHBOUR: 'it returns false'. Refute it at one input. -/
def bitmapSizesWrong : ChangeSpec := { name := "bitmapSizes", fn := fun _ => fun
  | [d] => { results := [.lit (.bool false)], args := [d] }
  | _ => none }
def BitmapSizesWrongFalsely : Prop := bitmapSizesRow.holds Try.pinned (OpenSpec.ofChange bitmapSizesWrong)

/-- 'burinlaw2.BitmapBlits': WHATEVER THE INPUT: true; the input reads as it did. -/
def bitmapBlitsSpec : ChangeSpec := { name := "bitmapBlits", fn := fun _ => fun
  | [d] => { results := [.lit (.bool true)], args := [d] }
  | _ => none }
def bitmapBlitsRow : OpenClaim := { program := "ytdkgdneiilnppaa", sum := "5b6445130e2d54ee91e1c480aff7c2854f773c6d48a4f27b06cc8c23e6684b48", func := "burin/burinlaw2.BitmapBlits", spec := "bitmapBlits", unfollowed := true, recurses := true, apart := false }
def BitmapBlitsSaid : Prop := bitmapBlitsRow.holds Try.pinned (OpenSpec.ofChange bitmapBlitsSpec)

/-- ITS FALSE NEIGHBOUR: 'it returns false'. Refute it at one input. -/
def bitmapBlitsWrong : ChangeSpec := { name := "bitmapBlits", fn := fun _ => fun
  | [d] => { results := [.lit (.bool false)], args := [d] }
  | _ => none }
def BitmapBlitsWrongFalsely : Prop := bitmapBlitsRow.holds Try.pinned (OpenSpec.ofChange bitmapBlitsWrong)

/-- 'burinlaw2.BitmapSelf': WHATEVER THE INPUT: true; the input reads as it did. -/
def bitmapSelfSpec : ChangeSpec := { name := "bitmapSelf", fn := fun _ => fun
  | [d] => { results := [.lit (.bool true)], args := [d] }
  | _ => none }
def bitmapSelfRow : OpenClaim := { program := "ytdkgdneiilnppaa", sum := "5b6445130e2d54ee91e1c480aff7c2854f773c6d48a4f27b06cc8c23e6684b48", func := "burin/burinlaw2.BitmapSelf", spec := "bitmapSelf", unfollowed := true, recurses := true, apart := false }
def BitmapSelfSaid : Prop := bitmapSelfRow.holds Try.pinned (OpenSpec.ofChange bitmapSelfSpec)

/-- ITS FALSE NEIGHBOUR: 'it returns false'. Refute it at one input. -/
def bitmapSelfWrong : ChangeSpec := { name := "bitmapSelf", fn := fun _ => fun
  | [d] => { results := [.lit (.bool false)], args := [d] }
  | _ => none }
def BitmapSelfWrongFalsely : Prop := bitmapSelfRow.holds Try.pinned (OpenSpec.ofChange bitmapSelfWrong)

/-- 'burinlaw2.BitmapCrops': WHATEVER THE INPUT: true; the input reads as it did. -/
def bitmapCropsSpec : ChangeSpec := { name := "bitmapCrops", fn := fun _ => fun
  | [d] => { results := [.lit (.bool true)], args := [d] }
  | _ => none }
def bitmapCropsRow : OpenClaim := { program := "ytdkgdneiilnppaa", sum := "5b6445130e2d54ee91e1c480aff7c2854f773c6d48a4f27b06cc8c23e6684b48", func := "burin/burinlaw2.BitmapCrops", spec := "bitmapCrops", unfollowed := true, recurses := true, apart := false }
def BitmapCropsSaid : Prop := bitmapCropsRow.holds Try.pinned (OpenSpec.ofChange bitmapCropsSpec)

/-- ITS FALSE NEIGHBOUR: 'it returns false'. Refute it at one input. -/
def bitmapCropsWrong : ChangeSpec := { name := "bitmapCrops", fn := fun _ => fun
  | [d] => { results := [.lit (.bool false)], args := [d] }
  | _ => none }
def BitmapCropsWrongFalsely : Prop := bitmapCropsRow.holds Try.pinned (OpenSpec.ofChange bitmapCropsWrong)

/-- 'burinlaw2.BitmapEqual': WHATEVER THE INPUT: true; the input reads as it did. -/
def bitmapEqualSpec : ChangeSpec := { name := "bitmapEqual", fn := fun _ => fun
  | [d] => { results := [.lit (.bool true)], args := [d] }
  | _ => none }
def bitmapEqualRow : OpenClaim := { program := "ytdkgdneiilnppaa", sum := "5b6445130e2d54ee91e1c480aff7c2854f773c6d48a4f27b06cc8c23e6684b48", func := "burin/burinlaw2.BitmapEqual", spec := "bitmapEqual", unfollowed := true, recurses := true, apart := false }
def BitmapEqualSaid : Prop := bitmapEqualRow.holds Try.pinned (OpenSpec.ofChange bitmapEqualSpec)

/-- ITS FALSE NEIGHBOUR: 'it returns false'. Refute it at one input. -/
def bitmapEqualWrong : ChangeSpec := { name := "bitmapEqual", fn := fun _ => fun
  | [d] => { results := [.lit (.bool false)], args := [d] }
  | _ => none }
def BitmapEqualWrongFalsely : Prop := bitmapEqualRow.holds Try.pinned (OpenSpec.ofChange bitmapEqualWrong)

/-- 'burinlaw2.BitmapOps': WHATEVER THE INPUT: true; the input reads as it did. -/
def bitmapOpsSpec : ChangeSpec := { name := "bitmapOps", fn := fun _ => fun
  | [d] => { results := [.lit (.bool true)], args := [d] }
  | _ => none }
def bitmapOpsRow : OpenClaim := { program := "ytdkgdneiilnppaa", sum := "5b6445130e2d54ee91e1c480aff7c2854f773c6d48a4f27b06cc8c23e6684b48", func := "burin/burinlaw2.BitmapOps", spec := "bitmapOps", unfollowed := true, recurses := true, apart := false }
def BitmapOpsSaid : Prop := bitmapOpsRow.holds Try.pinned (OpenSpec.ofChange bitmapOpsSpec)

/-- ITS FALSE NEIGHBOUR: 'it returns false'. Refute it at one input. -/
def bitmapOpsWrong : ChangeSpec := { name := "bitmapOps", fn := fun _ => fun
  | [d] => { results := [.lit (.bool false)], args := [d] }
  | _ => none }
def BitmapOpsWrongFalsely : Prop := bitmapOpsRow.holds Try.pinned (OpenSpec.ofChange bitmapOpsWrong)

/-- 'burinlaw2.BitmapTurns': WHATEVER THE INPUT: true; the input reads as it did. -/
def bitmapTurnsSpec : ChangeSpec := { name := "bitmapTurns", fn := fun _ => fun
  | [d] => { results := [.lit (.bool true)], args := [d] }
  | _ => none }
def bitmapTurnsRow : OpenClaim := { program := "ytdkgdneiilnppaa", sum := "5b6445130e2d54ee91e1c480aff7c2854f773c6d48a4f27b06cc8c23e6684b48", func := "burin/burinlaw2.BitmapTurns", spec := "bitmapTurns", unfollowed := true, recurses := true, apart := false }
def BitmapTurnsSaid : Prop := bitmapTurnsRow.holds Try.pinned (OpenSpec.ofChange bitmapTurnsSpec)

/-- ITS FALSE NEIGHBOUR: 'it returns false'. Refute it at one input. -/
def bitmapTurnsWrong : ChangeSpec := { name := "bitmapTurns", fn := fun _ => fun
  | [d] => { results := [.lit (.bool false)], args := [d] }
  | _ => none }
def BitmapTurnsWrongFalsely : Prop := bitmapTurnsRow.holds Try.pinned (OpenSpec.ofChange bitmapTurnsWrong)

/-- 'burinlaw2.BitmapFills': WHATEVER THE INPUT: true; the input reads as it did. -/
def bitmapFillsSpec : ChangeSpec := { name := "bitmapFills", fn := fun _ => fun
  | [d] => { results := [.lit (.bool true)], args := [d] }
  | _ => none }
def bitmapFillsRow : OpenClaim := { program := "ytdkgdneiilnppaa", sum := "5b6445130e2d54ee91e1c480aff7c2854f773c6d48a4f27b06cc8c23e6684b48", func := "burin/burinlaw2.BitmapFills", spec := "bitmapFills", unfollowed := true, recurses := true, apart := false }
def BitmapFillsSaid : Prop := bitmapFillsRow.holds Try.pinned (OpenSpec.ofChange bitmapFillsSpec)

/-- ITS FALSE NEIGHBOUR: 'it returns false'. Refute it at one input. -/
def bitmapFillsWrong : ChangeSpec := { name := "bitmapFills", fn := fun _ => fun
  | [d] => { results := [.lit (.bool false)], args := [d] }
  | _ => none }
def BitmapFillsWrongFalsely : Prop := bitmapFillsRow.holds Try.pinned (OpenSpec.ofChange bitmapFillsWrong)

/-- 'burinlaw2.BitmapExact': WHATEVER THE INPUT: true; the input reads as it did. -/
def bitmapExactSpec : ChangeSpec := { name := "bitmapExact", fn := fun _ => fun
  | [d] => { results := [.lit (.bool true)], args := [d] }
  | _ => none }
def bitmapExactRow : OpenClaim := { program := "ytdkgdneiilnppaa", sum := "5b6445130e2d54ee91e1c480aff7c2854f773c6d48a4f27b06cc8c23e6684b48", func := "burin/burinlaw2.BitmapExact", spec := "bitmapExact", unfollowed := true, recurses := true, apart := false }
def BitmapExactSaid : Prop := bitmapExactRow.holds Try.pinned (OpenSpec.ofChange bitmapExactSpec)

/-- ITS FALSE NEIGHBOUR: 'it returns false'. Refute it at one input. -/
def bitmapExactWrong : ChangeSpec := { name := "bitmapExact", fn := fun _ => fun
  | [d] => { results := [.lit (.bool false)], args := [d] }
  | _ => none }
def BitmapExactWrongFalsely : Prop := bitmapExactRow.holds Try.pinned (OpenSpec.ofChange bitmapExactWrong)

/- THE SECOND FORM. 'bulk': how many values and letters a reading holds, each counted each time it is reached (what is shared counts as often as it is met; a slice's spare places count too). A statement '..UptoSaid' is the law's where the arguments, and the package variables that the reading takes, are together of bulk at most 1048576: NARROWER than '..Said'. Prove '..Said' where nothing that the law and all that it calls make is longer than what came in: it says more and counts as full. Else prove '..UptoSaid'. A law counts once. -/
mutual
def uptoBulk {H : Type} : DataW H → Nat
  | .lit (.string bytes) => bytes.length + 1
  | .lit _ => 1
  | .nil => 1
  | .ptr d => uptoBulk d + 1
  | .slice elems spare => uptoBulkAll elems + uptoBulkAll spare + 1
  | .agg parts => uptoBulkAll parts + 1
  | .iface _ d => uptoBulk d + 1
  | .map entries => uptoBulkEntries entries + 1
  | .held _ => 1
def uptoBulkAll {H : Type} : List (DataW H) → Nat
  | [] => 0
  | d :: r => uptoBulk d + uptoBulkAll r
def uptoBulkEntries {H : Type} : List (Lit × DataW H) → Nat
  | [] => 0
  | x :: r => uptoBulkEntry x + uptoBulkEntries r
def uptoBulkEntry {H : Type} : Lit × DataW H → Nat
  | (.string bytes, d) => bytes.length + uptoBulk d + 1
  | (_, d) => uptoBulk d + 1
 end
def uptoSmall : (H : Type) → List (DataW H) → Bool := fun _ ds => decide (uptoBulkAll ds ≤ 1048576)
def OpenSpec.upto (s : _root_.Go.ChangeSpec) : _root_.Go.OpenSpec := { _root_.Go.OpenSpec.ofChange s with cond := some uptoSmall }

/-- 'burinlaw9.RunsOf', WHERE WHAT IT READS IS OF BULK AT MOST 1048576: true; the input reads as it did. -/
def runsOfUptoRow : OpenClaim := { program := "ytdkgdneiilnppaa", sum := "5b6445130e2d54ee91e1c480aff7c2854f773c6d48a4f27b06cc8c23e6684b48", func := "burin/burinlaw9.RunsOf", spec := "runsOf", apart := false, narrowed := true }
def RunsOfUptoSaid : Prop := runsOfUptoRow.holds Try.pinned (OpenSpec.upto runsOfSpec)

/-- 'burinlaw9.RunsBack', WHERE WHAT IT READS IS OF BULK AT MOST 1048576: true; the input reads as it did. -/
def runsBackUptoRow : OpenClaim := { program := "ytdkgdneiilnppaa", sum := "5b6445130e2d54ee91e1c480aff7c2854f773c6d48a4f27b06cc8c23e6684b48", func := "burin/burinlaw9.RunsBack", spec := "runsBack", apart := false, narrowed := true }
def RunsBackUptoSaid : Prop := runsBackUptoRow.holds Try.pinned (OpenSpec.upto runsBackSpec)

/-- 'burinlaw9.RunsRound', WHERE WHAT IT READS IS OF BULK AT MOST 1048576: true; the input reads as it did. -/
def runsRoundUptoRow : OpenClaim := { program := "ytdkgdneiilnppaa", sum := "5b6445130e2d54ee91e1c480aff7c2854f773c6d48a4f27b06cc8c23e6684b48", func := "burin/burinlaw9.RunsRound", spec := "runsRound", apart := false, narrowed := true }
def RunsRoundUptoSaid : Prop := runsRoundUptoRow.holds Try.pinned (OpenSpec.upto runsRoundSpec)

/-- 'burinlaw9.RunsMirrored', WHERE WHAT IT READS IS OF BULK AT MOST 1048576: true; the input reads as it did. -/
def runsMirroredUptoRow : OpenClaim := { program := "ytdkgdneiilnppaa", sum := "5b6445130e2d54ee91e1c480aff7c2854f773c6d48a4f27b06cc8c23e6684b48", func := "burin/burinlaw9.RunsMirrored", spec := "runsMirrored", apart := false, narrowed := true }
def RunsMirroredUptoSaid : Prop := runsMirroredUptoRow.holds Try.pinned (OpenSpec.upto runsMirroredSpec)

/-- 'burinlaw9.RunsTouch', WHERE WHAT IT READS IS OF BULK AT MOST 1048576: true; the input reads as it did. -/
def runsTouchUptoRow : OpenClaim := { program := "ytdkgdneiilnppaa", sum := "5b6445130e2d54ee91e1c480aff7c2854f773c6d48a4f27b06cc8c23e6684b48", func := "burin/burinlaw9.RunsTouch", spec := "runsTouch", apart := false, narrowed := true }
def RunsTouchUptoSaid : Prop := runsTouchUptoRow.holds Try.pinned (OpenSpec.upto runsTouchSpec)

/-- 'burinlaw2.BitmapSizes', WHERE WHAT IT READS IS OF BULK AT MOST 1048576: true; the input reads as it did. -/
def bitmapSizesUptoRow : OpenClaim := { program := "ytdkgdneiilnppaa", sum := "5b6445130e2d54ee91e1c480aff7c2854f773c6d48a4f27b06cc8c23e6684b48", func := "burin/burinlaw2.BitmapSizes", spec := "bitmapSizes", unfollowed := true, recurses := true, apart := false, narrowed := true }
def BitmapSizesUptoSaid : Prop := bitmapSizesUptoRow.holds Try.pinned (OpenSpec.upto bitmapSizesSpec)

/-- 'burinlaw2.BitmapBlits', WHERE WHAT IT READS IS OF BULK AT MOST 1048576: true; the input reads as it did. -/
def bitmapBlitsUptoRow : OpenClaim := { program := "ytdkgdneiilnppaa", sum := "5b6445130e2d54ee91e1c480aff7c2854f773c6d48a4f27b06cc8c23e6684b48", func := "burin/burinlaw2.BitmapBlits", spec := "bitmapBlits", unfollowed := true, recurses := true, apart := false, narrowed := true }
def BitmapBlitsUptoSaid : Prop := bitmapBlitsUptoRow.holds Try.pinned (OpenSpec.upto bitmapBlitsSpec)

/-- 'burinlaw2.BitmapSelf', WHERE WHAT IT READS IS OF BULK AT MOST 1048576: true; the input reads as it did. -/
def bitmapSelfUptoRow : OpenClaim := { program := "ytdkgdneiilnppaa", sum := "5b6445130e2d54ee91e1c480aff7c2854f773c6d48a4f27b06cc8c23e6684b48", func := "burin/burinlaw2.BitmapSelf", spec := "bitmapSelf", unfollowed := true, recurses := true, apart := false, narrowed := true }
def BitmapSelfUptoSaid : Prop := bitmapSelfUptoRow.holds Try.pinned (OpenSpec.upto bitmapSelfSpec)

/-- 'burinlaw2.BitmapCrops', WHERE WHAT IT READS IS OF BULK AT MOST 1048576: true; the input reads as it did. -/
def bitmapCropsUptoRow : OpenClaim := { program := "ytdkgdneiilnppaa", sum := "5b6445130e2d54ee91e1c480aff7c2854f773c6d48a4f27b06cc8c23e6684b48", func := "burin/burinlaw2.BitmapCrops", spec := "bitmapCrops", unfollowed := true, recurses := true, apart := false, narrowed := true }
def BitmapCropsUptoSaid : Prop := bitmapCropsUptoRow.holds Try.pinned (OpenSpec.upto bitmapCropsSpec)

/-- 'burinlaw2.BitmapEqual', WHERE WHAT IT READS IS OF BULK AT MOST 1048576: true; the input reads as it did. -/
def bitmapEqualUptoRow : OpenClaim := { program := "ytdkgdneiilnppaa", sum := "5b6445130e2d54ee91e1c480aff7c2854f773c6d48a4f27b06cc8c23e6684b48", func := "burin/burinlaw2.BitmapEqual", spec := "bitmapEqual", unfollowed := true, recurses := true, apart := false, narrowed := true }
def BitmapEqualUptoSaid : Prop := bitmapEqualUptoRow.holds Try.pinned (OpenSpec.upto bitmapEqualSpec)

/-- 'burinlaw2.BitmapOps', WHERE WHAT IT READS IS OF BULK AT MOST 1048576: true; the input reads as it did. -/
def bitmapOpsUptoRow : OpenClaim := { program := "ytdkgdneiilnppaa", sum := "5b6445130e2d54ee91e1c480aff7c2854f773c6d48a4f27b06cc8c23e6684b48", func := "burin/burinlaw2.BitmapOps", spec := "bitmapOps", unfollowed := true, recurses := true, apart := false, narrowed := true }
def BitmapOpsUptoSaid : Prop := bitmapOpsUptoRow.holds Try.pinned (OpenSpec.upto bitmapOpsSpec)

/-- 'burinlaw2.BitmapTurns', WHERE WHAT IT READS IS OF BULK AT MOST 1048576: true; the input reads as it did. -/
def bitmapTurnsUptoRow : OpenClaim := { program := "ytdkgdneiilnppaa", sum := "5b6445130e2d54ee91e1c480aff7c2854f773c6d48a4f27b06cc8c23e6684b48", func := "burin/burinlaw2.BitmapTurns", spec := "bitmapTurns", unfollowed := true, recurses := true, apart := false, narrowed := true }
def BitmapTurnsUptoSaid : Prop := bitmapTurnsUptoRow.holds Try.pinned (OpenSpec.upto bitmapTurnsSpec)

/-- 'burinlaw2.BitmapFills', WHERE WHAT IT READS IS OF BULK AT MOST 1048576: true; the input reads as it did. -/
def bitmapFillsUptoRow : OpenClaim := { program := "ytdkgdneiilnppaa", sum := "5b6445130e2d54ee91e1c480aff7c2854f773c6d48a4f27b06cc8c23e6684b48", func := "burin/burinlaw2.BitmapFills", spec := "bitmapFills", unfollowed := true, recurses := true, apart := false, narrowed := true }
def BitmapFillsUptoSaid : Prop := bitmapFillsUptoRow.holds Try.pinned (OpenSpec.upto bitmapFillsSpec)

/-- 'burinlaw2.BitmapExact', WHERE WHAT IT READS IS OF BULK AT MOST 1048576: true; the input reads as it did. -/
def bitmapExactUptoRow : OpenClaim := { program := "ytdkgdneiilnppaa", sum := "5b6445130e2d54ee91e1c480aff7c2854f773c6d48a4f27b06cc8c23e6684b48", func := "burin/burinlaw2.BitmapExact", spec := "bitmapExact", unfollowed := true, recurses := true, apart := false, narrowed := true }
def BitmapExactUptoSaid : Prop := bitmapExactUptoRow.holds Try.pinned (OpenSpec.upto bitmapExactSpec)

end Rows
end Go.Proofs.Ytdkgdneiilnppaa
