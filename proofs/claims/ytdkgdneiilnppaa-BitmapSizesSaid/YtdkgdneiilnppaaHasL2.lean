/- This seat's program has the functions of layer 2, and its laws. Conditions: none. -/
import Derived.Test.YtdkgdneiilnppaaLkBm
import Derived.Test.YtdkgdneiilnppaaCs
set_option linter.all false
namespace Go.Proofs.Ytdkgdneiilnppaa
open Go.Ab
theorem hasL2 : HasL2 prog := ⟨by constructor <;> rfl, by constructor <;> rfl, by constructor <;> rfl, by constructor <;> rfl, by constructor <;> rfl, rfl⟩
end Go.Proofs.Ytdkgdneiilnppaa
