/- This seat's program has the functions that CompsApart needs. Conditions: none. -/
import Derived.Test.YtfgecfbknpifjaaLkCompsApart
import Derived.Test.YtfgecfbknpifjaaLawCompsApart
set_option linter.all false
namespace Go.Proofs.Ytfgecfbknpifjaa
open Go.Ab
theorem hasL10 : HasL10 prog := ⟨by constructor <;> rfl, by constructor <;> rfl, by constructor <;> rfl, by constructor <;> rfl, by constructor <;> rfl⟩
theorem hasL2 : HasL2 prog := ⟨by constructor <;> rfl, by constructor <;> rfl, by constructor <;> rfl, by constructor <;> rfl, rfl⟩
theorem hasAp : HasL10Apart prog := by constructor <;> rfl
end Go.Proofs.Ytfgecfbknpifjaa
