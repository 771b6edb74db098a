/- This seat's program has the functions that CompsBack needs. Conditions: none. -/
import Derived.Test.YtfgecfbknpifjaaLkCompsBack
import Derived.Test.YtfgecfbknpifjaaLawCompsBack
set_option linter.all false
namespace Go.Proofs.Ytfgecfbknpifjaa
open Go.Ab
theorem hasL10 : HasL10 prog := ⟨by constructor <;> rfl, by constructor <;> rfl, by constructor <;> rfl, by constructor <;> rfl, by constructor <;> rfl⟩
theorem hasRfc : HasRfc prog := by constructor <;> rfl
end Go.Proofs.Ytfgecfbknpifjaa
