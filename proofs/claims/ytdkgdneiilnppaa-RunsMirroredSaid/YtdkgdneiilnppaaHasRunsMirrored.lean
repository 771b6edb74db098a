/- This seat's program has the functions that RunsMirrored needs. Conditions: none. -/
import Derived.Test.YtdkgdneiilnppaaLkRunsMirrored
import Derived.Test.YtdkgdneiilnppaaLawRunsMirrored
set_option linter.all false
namespace Go.Proofs.Ytdkgdneiilnppaa
open Go.Ab
theorem hasL9m : HasL9m prog := ⟨⟨by constructor <;> rfl, by constructor <;> rfl, by constructor <;> rfl, by constructor <;> rfl, by constructor <;> rfl⟩, by constructor <;> rfl⟩
end Go.Proofs.Ytdkgdneiilnppaa
