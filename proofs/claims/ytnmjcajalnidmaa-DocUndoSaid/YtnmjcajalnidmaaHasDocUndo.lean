/- This seat's program has the functions that DocUndo needs. Conditions: none. -/
import Derived.Test.YtnmjcajalnidmaaLkDocUndo
import Derived.Test.YtnmjcajalnidmaaLawDocUndo
set_option linter.all false
namespace Go.Proofs.Ytnmjcajalnidmaa
open Go.Ab
theorem hasL2 : HasL2 prog := ⟨by constructor <;> rfl, by constructor <;> rfl, by constructor <;> rfl, by constructor <;> rfl, rfl⟩
theorem hasDoc : HasDoc prog := by constructor <;> rfl
theorem hasU : HasL20Undo prog := by constructor <;> rfl
end Go.Proofs.Ytnmjcajalnidmaa
