/- This seat's program has the functions that BitmapExact needs. Conditions: none. -/
import Derived.Test.YtdkgdneiilnppaaLkBitmapExact
import Derived.Test.YtdkgdneiilnppaaC6
set_option linter.all false
namespace Go.Proofs.Ytdkgdneiilnppaa
open Go.Ab
theorem hasL2 : HasL2 prog := ⟨by constructor <;> rfl, by constructor <;> rfl, by constructor <;> rfl, by constructor <;> rfl, rfl⟩
theorem hasRef2 : HasRef2 prog := by constructor <;> rfl
theorem hasL2x : HasL2x prog := by constructor <;> rfl
end Go.Proofs.Ytdkgdneiilnppaa
