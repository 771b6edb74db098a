/- This seat's program has the functions that FileWrites needs. Conditions: none. -/
import Derived.Test.YteihedfehcelhaaGreatFw1
import Derived.Test.YteihedfehcelhaaGreatFw2
import Derived.Test.YteihedfehcelhaaGreatFw3
import Derived.Test.YteihedfehcelhaaGreatFw4
import Derived.Test.YteihedfehcelhaaGreatFw5
import Derived.Test.YteihedfehcelhaaGreatFw6
import Derived.Test.YteihedfehcelhaaGreatFwLk
set_option linter.all false
namespace Go.Proofs.YteihedfehcelhaaGreat
open Go.Ab
theorem hasSeg : HasSeg prog := by constructor <;> rfl
theorem hasBits : HasBits prog := by constructor <;> rfl
theorem hasRf : HasRf16 prog := by constructor <;> rfl
theorem hasRb : HasRefBits prog := by constructor <;> rfl
theorem hasFw : HasFw prog := by constructor <;> rfl
theorem hasRf17 : HasRf17 prog := by constructor <;> rfl
theorem hasL17 : HasL17Writes prog := by constructor <;> rfl
end Go.Proofs.YteihedfehcelhaaGreat
