/- This seat's program has the functions that RunsBack needs. Conditions: none. -/
import Derived.Test.YtdkgdneiilnppaaLkRunsBack
import Derived.Test.YtdkgdneiilnppaaLawRunsBack
set_option linter.all false
namespace Go.Proofs.Ytdkgdneiilnppaa
open Go.Ab
theorem hasL9 : HasL9 prog := ⟨by constructor <;> rfl, by constructor <;> rfl, by constructor <;> rfl, by constructor <;> rfl⟩
end Go.Proofs.Ytdkgdneiilnppaa
