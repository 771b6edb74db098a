/- This seat's program has the functions of layer 2 that BitmapBlits needs. Conditions: none. -/
import Derived.Test.YtdkgdneiilnppaaLkBlits
import Derived.Test.YtdkgdneiilnppaaCs
set_option linter.all false
namespace Go.Proofs.Ytdkgdneiilnppaa
open Go.Ab
theorem hasL2 : HasL2 prog := ⟨by constructor <;> rfl, by constructor <;> rfl, by constructor <;> rfl, by constructor <;> rfl, rfl⟩
theorem hasLaw : prog 105 = some burinlaw2_BitmapBlits := rfl
end Go.Proofs.Ytdkgdneiilnppaa
