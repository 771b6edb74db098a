/- This seat's program has the functions that CompsRound needs. Conditions: none. -/
import Derived.Test.YtfgecfbknpifjaaLkCompsRound
import Derived.Test.YtfgecfbknpifjaaLawCompsRound
set_option linter.all false
namespace Go.Proofs.Ytfgecfbknpifjaa
open Go.Ab
theorem hasL10 : HasL10 prog := ⟨by constructor <;> rfl, by constructor <;> rfl, by constructor <;> rfl, by constructor <;> rfl, by constructor <;> rfl⟩
theorem hasL2 : HasL2 prog := ⟨by constructor <;> rfl, by constructor <;> rfl, by constructor <;> rfl, by constructor <;> rfl, rfl⟩
end Go.Proofs.Ytfgecfbknpifjaa
