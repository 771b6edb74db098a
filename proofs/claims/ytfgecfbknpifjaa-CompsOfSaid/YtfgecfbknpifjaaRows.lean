/-
  No cell of these rows narrows 'for every input' (looked for: loops, veiled, ifaces, maps, wideKeys, modest, calm, conditions, laid).
  DERIVED. THE GIVEN ROWS OF THIS SEAT. 6 by the template 'for every input the law returns true; each argument reads behind the call as it read before'; 0 by the template 'total and deterministic' (their statements: YtfgecfbknpifjaaTotals.lean).
  GIVEN WITH THE SEED: the statements are not yours to turn. If you find one false, say at which input.
  Laid BY PROGRAM, IN A SANDBOX (cutbox-rows.mjs): the forced cells as the released guide's own fill.sh prints them over the translation 3c28758ba0bc908d… (all of the seat's roots in one cut). By AI agents, Wed Nov 11 2026. No macro, syntax, notation, axiom, sorry.
-/
import Derived.Test.YtfgecfbknpifjaaChecked
import GoSem.Claim
import GoSem.ClaimJoined
import GoSem.ClaimMapViews
import Derived.JoinedTies
import Derived.KernelRfl
namespace Go.Proofs.Ytfgecfbknpifjaa
/- THE CELL 'sum', in the pinned program and in every row, IS THE sha256 OF THE DUMP (.gsa) THAT YtfgecfbknpifjaaProg.lean LOADS. Nothing in Lean hashes anything: it is a label: what it is worth is what the hold of that sum in a sandbox is worth. -/
noncomputable def Try.pinned : Pinned := { name := "ytfgecfbknpifjaa", sum := "3c28758ba0bc908d774cb355ca36a06cd625d6bfbdbeaf76da71295e0c029620", checked := Try.checked }
namespace Rows
def none {H : Type} : Left H := { results := [], args := [] }

/-- 'burinlaw10.CompsOf': WHATEVER THE INPUT: true; the input reads as it did. -/
def compsOfSpec : ChangeSpec := { name := "compsOf", fn := fun _ => fun
  | [d] => { results := [.lit (.bool true)], args := [d] }
  | _ => none }
def compsOfRow : OpenClaim := { program := "ytfgecfbknpifjaa", sum := "3c28758ba0bc908d774cb355ca36a06cd625d6bfbdbeaf76da71295e0c029620", func := "burin/burinlaw10.CompsOf", spec := "compsOf", unfollowed := true, recurses := true, apart := false }
def CompsOfSaid : Prop := compsOfRow.holds Try.pinned (OpenSpec.ofChange compsOfSpec)

/-- ITS FALSE NEIGHBOUR: 'it returns false'. Refute it at one input. -/
def compsOfWrong : ChangeSpec := { name := "compsOf", fn := fun _ => fun
  | [d] => { results := [.lit (.bool false)], args := [d] }
  | _ => none }
def CompsOfWrongFalsely : Prop := compsOfRow.holds Try.pinned (OpenSpec.ofChange compsOfWrong)

/-- 'burinlaw10.CompsBack': WHATEVER THE INPUT: true; the input reads as it did. -/
def compsBackSpec : ChangeSpec := { name := "compsBack", fn := fun _ => fun
  | [d] => { results := [.lit (.bool true)], args := [d] }
  | _ => none }
def compsBackRow : OpenClaim := { program := "ytfgecfbknpifjaa", sum := "3c28758ba0bc908d774cb355ca36a06cd625d6bfbdbeaf76da71295e0c029620", func := "burin/burinlaw10.CompsBack", spec := "compsBack", unfollowed := true, recurses := true, apart := false }
def CompsBackSaid : Prop := compsBackRow.holds Try.pinned (OpenSpec.ofChange compsBackSpec)

/-- ITS FALSE NEIGHBOUR: 'it returns false'. Refute it at one input. -/
def compsBackWrong : ChangeSpec := { name := "compsBack", fn := fun _ => fun
  | [d] => { results := [.lit (.bool false)], args := [d] }
  | _ => none }
def CompsBackWrongFalsely : Prop := compsBackRow.holds Try.pinned (OpenSpec.ofChange compsBackWrong)

/-- 'burinlaw10.CompsRound': WHATEVER THE INPUT: true; the input reads as it did. -/
def compsRoundSpec : ChangeSpec := { name := "compsRound", fn := fun _ => fun
  | [d] => { results := [.lit (.bool true)], args := [d] }
  | _ => none }
def compsRoundRow : OpenClaim := { program := "ytfgecfbknpifjaa", sum := "3c28758ba0bc908d774cb355ca36a06cd625d6bfbdbeaf76da71295e0c029620", func := "burin/burinlaw10.CompsRound", spec := "compsRound", unfollowed := true, recurses := true, apart := false }
def CompsRoundSaid : Prop := compsRoundRow.holds Try.pinned (OpenSpec.ofChange compsRoundSpec)

/-- ITS FALSE NEIGHBOUR: 'it returns false'. Refute it at one input. -/
def compsRoundWrong : ChangeSpec := { name := "compsRound", fn := fun _ => fun
  | [d] => { results := [.lit (.bool false)], args := [d] }
  | _ => none }
def CompsRoundWrongFalsely : Prop := compsRoundRow.holds Try.pinned (OpenSpec.ofChange compsRoundWrong)

/-- 'burinlaw10.CompsApart': WHATEVER THE INPUT: true; the input reads as it did. -/
def compsApartSpec : ChangeSpec := { name := "compsApart", fn := fun _ => fun
  | [d] => { results := [.lit (.bool true)], args := [d] }
  | _ => none }
def compsApartRow : OpenClaim := { program := "ytfgecfbknpifjaa", sum := "3c28758ba0bc908d774cb355ca36a06cd625d6bfbdbeaf76da71295e0c029620", func := "burin/burinlaw10.CompsApart", spec := "compsApart", unfollowed := true, recurses := true, apart := false }
def CompsApartSaid : Prop := compsApartRow.holds Try.pinned (OpenSpec.ofChange compsApartSpec)

/-- ITS FALSE NEIGHBOUR: 'it returns false'. Refute it at one input. -/
def compsApartWrong : ChangeSpec := { name := "compsApart", fn := fun _ => fun
  | [d] => { results := [.lit (.bool false)], args := [d] }
  | _ => none }
def CompsApartWrongFalsely : Prop := compsApartRow.holds Try.pinned (OpenSpec.ofChange compsApartWrong)

/-- 'burinlaw10.CompsRing': WHATEVER THE INPUT: true; the input reads as it did. -/
def compsRingSpec : ChangeSpec := { name := "compsRing", fn := fun _ => fun
  | [] => { results := [.lit (.bool true)], args := [] }
  | _ => none }
def compsRingRow : OpenClaim := { program := "ytfgecfbknpifjaa", sum := "3c28758ba0bc908d774cb355ca36a06cd625d6bfbdbeaf76da71295e0c029620", func := "burin/burinlaw10.CompsRing", spec := "compsRing", unfollowed := true, recurses := true, apart := false }
def CompsRingSaid : Prop := compsRingRow.holds Try.pinned (OpenSpec.ofChange compsRingSpec)

/-- ITS FALSE NEIGHBOUR: 'it returns false'. Refute it at one input. -/
def compsRingWrong : ChangeSpec := { name := "compsRing", fn := fun _ => fun
  | [] => { results := [.lit (.bool false)], args := [] }
  | _ => none }
def CompsRingWrongFalsely : Prop := compsRingRow.holds Try.pinned (OpenSpec.ofChange compsRingWrong)

/-- 'burinlaw10.CompsMirrored': WHATEVER THE INPUT: true; the input reads as it did. -/
def compsMirroredSpec : ChangeSpec := { name := "compsMirrored", fn := fun _ => fun
  | [d] => { results := [.lit (.bool true)], args := [d] }
  | _ => none }
def compsMirroredRow : OpenClaim := { program := "ytfgecfbknpifjaa", sum := "3c28758ba0bc908d774cb355ca36a06cd625d6bfbdbeaf76da71295e0c029620", func := "burin/burinlaw10.CompsMirrored", spec := "compsMirrored", unfollowed := true, recurses := true, apart := false }
def CompsMirroredSaid : Prop := compsMirroredRow.holds Try.pinned (OpenSpec.ofChange compsMirroredSpec)

/-- ITS FALSE NEIGHBOUR: 'it returns false'. Refute it at one input. -/
def compsMirroredWrong : ChangeSpec := { name := "compsMirrored", fn := fun _ => fun
  | [d] => { results := [.lit (.bool false)], args := [d] }
  | _ => none }
def CompsMirroredWrongFalsely : Prop := compsMirroredRow.holds Try.pinned (OpenSpec.ofChange compsMirroredWrong)

/- THE SECOND FORM. 'bulk': how many values and letters a reading holds, each counted each time it is reached (what is shared counts as often as it is met; a slice's spare places count too). A statement '..UptoSaid' is the law's where the arguments, and the package variables that the reading takes, are together of bulk at most 1048576: NARROWER than '..Said'. Prove '..Said' where nothing that the law and all that it calls make is longer than what came in: it says more and counts as full. Else prove '..UptoSaid'. A law counts once. -/
mutual
def uptoBulk {H : Type} : DataW H → Nat
  | .lit (.string bytes) => bytes.length + 1
  | .lit _ => 1
  | .nil => 1
  | .ptr d => uptoBulk d + 1
  | .slice elems spare => uptoBulkAll elems + uptoBulkAll spare + 1
  | .agg parts => uptoBulkAll parts + 1
  | .iface _ d => uptoBulk d + 1
  | .map entries => uptoBulkEntries entries + 1
  | .held _ => 1
def uptoBulkAll {H : Type} : List (DataW H) → Nat
  | [] => 0
  | d :: r => uptoBulk d + uptoBulkAll r
def uptoBulkEntries {H : Type} : List (Lit × DataW H) → Nat
  | [] => 0
  | x :: r => uptoBulkEntry x + uptoBulkEntries r
def uptoBulkEntry {H : Type} : Lit × DataW H → Nat
  | (.string bytes, d) => bytes.length + uptoBulk d + 1
  | (_, d) => uptoBulk d + 1
 end
def uptoSmall : (H : Type) → List (DataW H) → Bool := fun _ ds => decide (uptoBulkAll ds ≤ 1048576)
def OpenSpec.upto (s : _root_.Go.ChangeSpec) : _root_.Go.OpenSpec := { _root_.Go.OpenSpec.ofChange s with cond := some uptoSmall }

/-- 'burinlaw10.CompsOf', WHERE WHAT IT READS IS OF BULK AT MOST 1048576: true; the input reads as it did. -/
def compsOfUptoRow : OpenClaim := { program := "ytfgecfbknpifjaa", sum := "3c28758ba0bc908d774cb355ca36a06cd625d6bfbdbeaf76da71295e0c029620", func := "burin/burinlaw10.CompsOf", spec := "compsOf", unfollowed := true, recurses := true, apart := false, narrowed := true }
def CompsOfUptoSaid : Prop := compsOfUptoRow.holds Try.pinned (OpenSpec.upto compsOfSpec)

/-- 'burinlaw10.CompsBack', WHERE WHAT IT READS IS OF BULK AT MOST 1048576: true; the input reads as it did. -/
def compsBackUptoRow : OpenClaim := { program := "ytfgecfbknpifjaa", sum := "3c28758ba0bc908d774cb355ca36a06cd625d6bfbdbeaf76da71295e0c029620", func := "burin/burinlaw10.CompsBack", spec := "compsBack", unfollowed := true, recurses := true, apart := false, narrowed := true }
def CompsBackUptoSaid : Prop := compsBackUptoRow.holds Try.pinned (OpenSpec.upto compsBackSpec)

/-- 'burinlaw10.CompsRound', WHERE WHAT IT READS IS OF BULK AT MOST 1048576: true; the input reads as it did. -/
def compsRoundUptoRow : OpenClaim := { program := "ytfgecfbknpifjaa", sum := "3c28758ba0bc908d774cb355ca36a06cd625d6bfbdbeaf76da71295e0c029620", func := "burin/burinlaw10.CompsRound", spec := "compsRound", unfollowed := true, recurses := true, apart := false, narrowed := true }
def CompsRoundUptoSaid : Prop := compsRoundUptoRow.holds Try.pinned (OpenSpec.upto compsRoundSpec)

/-- 'burinlaw10.CompsApart', WHERE WHAT IT READS IS OF BULK AT MOST 1048576: true; the input reads as it did. -/
def compsApartUptoRow : OpenClaim := { program := "ytfgecfbknpifjaa", sum := "3c28758ba0bc908d774cb355ca36a06cd625d6bfbdbeaf76da71295e0c029620", func := "burin/burinlaw10.CompsApart", spec := "compsApart", unfollowed := true, recurses := true, apart := false, narrowed := true }
def CompsApartUptoSaid : Prop := compsApartUptoRow.holds Try.pinned (OpenSpec.upto compsApartSpec)

/-- 'burinlaw10.CompsRing', WHERE WHAT IT READS IS OF BULK AT MOST 1048576: true; the input reads as it did. -/
def compsRingUptoRow : OpenClaim := { program := "ytfgecfbknpifjaa", sum := "3c28758ba0bc908d774cb355ca36a06cd625d6bfbdbeaf76da71295e0c029620", func := "burin/burinlaw10.CompsRing", spec := "compsRing", unfollowed := true, recurses := true, apart := false, narrowed := true }
def CompsRingUptoSaid : Prop := compsRingUptoRow.holds Try.pinned (OpenSpec.upto compsRingSpec)

/-- 'burinlaw10.CompsMirrored', WHERE WHAT IT READS IS OF BULK AT MOST 1048576: true; the input reads as it did. -/
def compsMirroredUptoRow : OpenClaim := { program := "ytfgecfbknpifjaa", sum := "3c28758ba0bc908d774cb355ca36a06cd625d6bfbdbeaf76da71295e0c029620", func := "burin/burinlaw10.CompsMirrored", spec := "compsMirrored", unfollowed := true, recurses := true, apart := false, narrowed := true }
def CompsMirroredUptoSaid : Prop := compsMirroredUptoRow.holds Try.pinned (OpenSpec.upto compsMirroredSpec)

end Rows
end Go.Proofs.Ytfgecfbknpifjaa
