/- BitsVars over the abstract machine, at whatever data. Conditions: none. -/
import Derived.Test.YtcjkjlgjalanlaaBy
import Derived.Test.YtcjkjlgjalanlaaBq
set_option linter.all false
namespace Go.Ab
theorem law_BitsVars {P : Prog} (hp : HasL1 P) (H : Heap) (cs : List V) (x : TD.Ty (.sl 8 (.int .u64))) (h : Is H (.sl 8 (.int .u64)) cs x) : Call P 33 [argV (.sl 8 (.int .u64)) cs] H fun o _ => o = .ret (.bool true) := by
  obtain ⟨v, ns, rfl, h2, h3, h4⟩ := Is.nats (k := .u64) rfl h
  refine bitsVars hp h2 (fun n hn => ?_) (by omega)
  have := h3 n hn
  have e : IntKind.u64.max = 18446744073709551615 := by decide
  omega
end Go.Ab
