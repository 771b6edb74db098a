/- This seat's program has the functions that DocSizes needs. Conditions: none. -/
import Derived.Test.YtnmjcajalnidmaaLkDocSizes
import Derived.Test.YtnmjcajalnidmaaLawDocSizes
set_option linter.all false
namespace Go.Proofs.Ytnmjcajalnidmaa
open Go.Ab
theorem hasL20 : HasL20 prog := ⟨by constructor <;> rfl, by constructor <;> rfl, by constructor <;> rfl⟩
end Go.Proofs.Ytnmjcajalnidmaa
