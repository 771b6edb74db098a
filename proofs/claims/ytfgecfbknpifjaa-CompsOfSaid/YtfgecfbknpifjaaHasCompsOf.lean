/- This seat's program has the functions that CompsOf needs. Conditions: none. -/
import Derived.Test.YtfgecfbknpifjaaLkCompsOf
import Derived.Test.YtfgecfbknpifjaaLawCompsOf
set_option linter.all false
namespace Go.Proofs.Ytfgecfbknpifjaa
open Go.Ab
theorem hasL10 : HasL10 prog := ⟨by constructor <;> rfl, by constructor <;> rfl, by constructor <;> rfl, by constructor <;> rfl, by constructor <;> rfl⟩
theorem hasL2 : HasL2 prog := ⟨by constructor <;> rfl, by constructor <;> rfl, by constructor <;> rfl, by constructor <;> rfl, rfl⟩
theorem hasRfc : HasRfc prog := by constructor <;> rfl
theorem hasOf : HasL10Of prog := by constructor <;> rfl
end Go.Proofs.Ytfgecfbknpifjaa
