/- This seat's program has the functions that RunsRound needs. Conditions: none. -/
import Derived.Test.YtdkgdneiilnppaaLkRunsRound
import Derived.Test.YtdkgdneiilnppaaLawRunsRound
set_option linter.all false
namespace Go.Proofs.Ytdkgdneiilnppaa
open Go.Ab
theorem hasL9r : HasL9r prog := ⟨by constructor <;> rfl, by constructor <;> rfl, by constructor <;> rfl, by constructor <;> rfl, by constructor <;> rfl⟩
end Go.Proofs.Ytdkgdneiilnppaa
