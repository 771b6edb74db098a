/- This seat's program has the functions that CompsMirrored needs. Conditions: none. -/
import Derived.Test.YtfgecfbknpifjaaLkCompsMirrored
import Derived.Test.YtfgecfbknpifjaaLawCompsMirrored
set_option linter.all false
namespace Go.Proofs.Ytfgecfbknpifjaa
open Go.Ab
theorem hasL10 : HasL10 prog := ⟨by constructor <;> rfl, by constructor <;> rfl, by constructor <;> rfl, by constructor <;> rfl, by constructor <;> rfl⟩
theorem hasL2 : HasL2 prog := ⟨by constructor <;> rfl, by constructor <;> rfl, by constructor <;> rfl, by constructor <;> rfl, rfl⟩
theorem hasRef2 : HasRef2 prog := by constructor <;> rfl
end Go.Proofs.Ytfgecfbknpifjaa
