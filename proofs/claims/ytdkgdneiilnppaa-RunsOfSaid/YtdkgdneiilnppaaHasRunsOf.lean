/- This seat's program has the functions that RunsOf needs. Conditions: none. -/
import Derived.Test.YtdkgdneiilnppaaLkRunsOf
import Derived.Test.YtdkgdneiilnppaaLawRunsOf
set_option linter.all false
namespace Go.Proofs.Ytdkgdneiilnppaa
open Go.Ab
theorem hasL9k : HasL9k prog := ⟨by constructor <;> rfl, by constructor <;> rfl, by constructor <;> rfl, by constructor <;> rfl, by constructor <;> rfl⟩
end Go.Proofs.Ytdkgdneiilnppaa
