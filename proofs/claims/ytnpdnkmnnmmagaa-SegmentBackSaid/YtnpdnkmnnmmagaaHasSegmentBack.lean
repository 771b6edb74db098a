/- This seat's program has the functions that SegmentBack needs. Conditions: none. -/
import Derived.Test.YtnpdnkmnnmmagaaLkSegmentBack
import Derived.Test.YtnpdnkmnnmmagaaLawSegmentBack
set_option linter.all false
namespace Go.Proofs.Ytnpdnkmnnmmagaa
open Go.Ab
theorem hasSeg : HasSeg prog := by constructor <;> rfl
theorem hasBits : HasBits prog := by constructor <;> rfl
end Go.Proofs.Ytnpdnkmnnmmagaa
