/- This seat's program has the functions that FileFaults needs. Conditions: none. -/
import Derived.Test.YteihedfehcelhaaGreatFf1
import Derived.Test.YteihedfehcelhaaGreatFf2
import Derived.Test.YteihedfehcelhaaGreatFf3
import Derived.Test.YteihedfehcelhaaGreatFf4
import Derived.Test.YteihedfehcelhaaGreatFf5
import Derived.Test.YteihedfehcelhaaGreatFf6
import Derived.Test.YteihedfehcelhaaGreatFf7
import Derived.Test.YteihedfehcelhaaGreatFfLk
set_option linter.all false
namespace Go.Proofs.YteihedfehcelhaaGreat
open Go.Ab
theorem hasSeg : HasSeg prog := by constructor <;> rfl
theorem hasBits : HasBits prog := by constructor <;> rfl
theorem hasRf : HasRf16 prog := by constructor <;> rfl
theorem hasRb : HasRefBits prog := by constructor <;> rfl
theorem hasFw : HasFw prog := by constructor <;> rfl
theorem hasFs : HasFs prog := by constructor <;> rfl
theorem hasRf17 : HasRf17 prog := by constructor <;> rfl
theorem hasL17 : HasL17Faults prog := by constructor <;> rfl
end Go.Proofs.YteihedfehcelhaaGreat
