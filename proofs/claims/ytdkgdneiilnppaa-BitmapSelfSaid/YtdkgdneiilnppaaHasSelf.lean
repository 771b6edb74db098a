/- This seat's program has the functions of layer 2 that BitmapSelf needs. Conditions: none. -/
import Derived.Test.YtdkgdneiilnppaaLkSelf
import Derived.Test.YtdkgdneiilnppaaCs
set_option linter.all false
namespace Go.Proofs.Ytdkgdneiilnppaa
open Go.Ab
theorem hasL2 : HasL2 prog := ⟨by constructor <;> rfl, by constructor <;> rfl, by constructor <;> rfl, by constructor <;> rfl, rfl⟩
theorem hasLaw : prog 106 = some burinlaw2_BitmapSelf := rfl
end Go.Proofs.Ytdkgdneiilnppaa
