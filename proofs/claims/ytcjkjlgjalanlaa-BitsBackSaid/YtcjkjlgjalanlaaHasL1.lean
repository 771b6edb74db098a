/- This seat's program has the functions of layer 1, and its laws. Conditions: none. -/
import Derived.Test.YtcjkjlgjalanlaaLkBits
import Derived.Test.YtcjkjlgjalanlaaBq
set_option linter.all false
namespace Go.Proofs.Ytcjkjlgjalanlaa
open Go.Ab
theorem hasL1 : HasL1 prog := ⟨⟨rfl, rfl, rfl, rfl, rfl, rfl, rfl, rfl, rfl, rfl, rfl, rfl, rfl, rfl, rfl, rfl, rfl⟩, by constructor <;> rfl, by constructor <;> rfl, by constructor <;> rfl⟩
end Go.Proofs.Ytcjkjlgjalanlaa
