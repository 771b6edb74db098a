/- This seat's program has the functions that DocAlike needs. Conditions: none. -/
import Derived.Test.YtnmjcajalnidmaaLkDocAlike
import Derived.Test.YtnmjcajalnidmaaLawDocAlike
set_option linter.all false
namespace Go.Proofs.Ytnmjcajalnidmaa
open Go.Ab
theorem hasL20w : HasL20w prog := ⟨by constructor <;> rfl, by constructor <;> rfl, by constructor <;> rfl, rfl⟩
end Go.Proofs.Ytnmjcajalnidmaa
