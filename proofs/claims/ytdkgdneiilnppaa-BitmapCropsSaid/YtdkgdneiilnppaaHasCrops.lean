/- This seat's program has the functions of layer 2 that BitmapCrops needs. Conditions: none. -/
import Derived.Test.YtdkgdneiilnppaaLkCrops
import Derived.Test.YtdkgdneiilnppaaCs
set_option linter.all false
namespace Go.Proofs.Ytdkgdneiilnppaa
open Go.Ab
theorem hasL2 : HasL2 prog := ⟨by constructor <;> rfl, by constructor <;> rfl, by constructor <;> rfl, by constructor <;> rfl, rfl⟩
theorem hasLaw : prog 111 = some burinlaw2_BitmapCrops := rfl
end Go.Proofs.Ytdkgdneiilnppaa
