/- This seat's program has the functions of layer 2 that BitmapFills needs. Conditions: none. -/
import Derived.Test.YtdkgdneiilnppaaLkFills
import Derived.Test.YtdkgdneiilnppaaCs
set_option linter.all false
namespace Go.Proofs.Ytdkgdneiilnppaa
open Go.Ab
theorem hasL2 : HasL2 prog := ⟨by constructor <;> rfl, by constructor <;> rfl, by constructor <;> rfl, by constructor <;> rfl, rfl⟩
theorem hasLaw : prog 108 = some burinlaw2_BitmapFills := rfl
end Go.Proofs.Ytdkgdneiilnppaa
