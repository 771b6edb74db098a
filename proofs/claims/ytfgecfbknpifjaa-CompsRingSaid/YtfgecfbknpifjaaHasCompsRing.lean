/- This seat's program has the functions that CompsRing needs. Conditions: none. -/
import Derived.Test.YtfgecfbknpifjaaLkCompsRing
import Derived.Test.YtfgecfbknpifjaaLawCompsRing
set_option linter.all false
namespace Go.Proofs.Ytfgecfbknpifjaa
open Go.Ab
theorem hasL10 : HasL10 prog := ⟨by constructor <;> rfl, by constructor <;> rfl, by constructor <;> rfl, by constructor <;> rfl, by constructor <;> rfl⟩
end Go.Proofs.Ytfgecfbknpifjaa
