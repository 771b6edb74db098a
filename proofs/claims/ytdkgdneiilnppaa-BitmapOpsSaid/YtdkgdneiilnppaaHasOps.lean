/- This seat's program has the functions of layer 2 that BitmapOps needs. Conditions: none. -/
import Derived.Test.YtdkgdneiilnppaaLkOps
import Derived.Test.YtdkgdneiilnppaaCs
set_option linter.all false
namespace Go.Proofs.Ytdkgdneiilnppaa
open Go.Ab
theorem hasL2 : HasL2 prog := ⟨by constructor <;> rfl, by constructor <;> rfl, by constructor <;> rfl, by constructor <;> rfl, rfl⟩
theorem hasLaw : prog 110 = some burinlaw2_BitmapOps := rfl
end Go.Proofs.Ytdkgdneiilnppaa
