/- This seat's program has the functions that SegmentEncodes needs. Conditions: none. -/
import Derived.Test.YtnpdnkmnnmmagaaLkSegmentEncodes
import Derived.Test.YtnpdnkmnnmmagaaLawSegmentEncodes
set_option linter.all false
namespace Go.Proofs.Ytnpdnkmnnmmagaa
open Go.Ab
theorem hasSeg : HasSeg prog := by constructor <;> rfl
theorem hasBits : HasBits prog := by constructor <;> rfl
theorem hasRf : HasRf16 prog := by constructor <;> rfl
theorem hasRb : HasRefBits prog := by constructor <;> rfl
end Go.Proofs.Ytnpdnkmnnmmagaa
