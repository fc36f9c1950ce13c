/- S2 -/
import Derived.Test.YtdejhenkdbjakaaDoorQM00
set_option linter.unusedVariables false
set_option linter.unusedSimpArgs false
set_option maxRecDepth 100000
set_option maxHeartbeats 4000000
namespace Go.Proofs.YtdejhenkdbjakaaDoor
def oneF (c : Nat) : Nat → Nat := fun i => if i = 0 then c else 0
theorem oneF_lt {c : Nat} (h : c < 256) (i : Nat) : oneF c i < 256 := by unfold oneF; split <;> omega
end Go.Proofs.YtdejhenkdbjakaaDoor
