/- The chapter's examples (law08) tell true. -/
import Derived.Test.YtdejhenkdbjakaaDoorWE
import Derived.Test.YtdejhenkdbjakaaDoorE3
set_option linter.unusedVariables false
set_option linter.unusedSimpArgs false
namespace Go.Proofs.YtdejhenkdbjakaaDoor
open Go Go.RowKit
theorem awake_any (w : World) (hW : Laid w) : Calls Tryd.prog 15 #[] w fun e w' => e = .returned (.bool true) ∧ Kept [] w w' := awake_of awake_ne w hW

theorem i_gtz {k : IntKind} {a b : Int} (h : b < a) : intRes .gtr k a b = some (.bool true) := by simp [intRes, h]
theorem i_ngtz {k : IntKind} {a b : Int} (h : ¬ b < a) : intRes .gtr k a b = some (.bool false) := by simp [intRes]; omega
end Go.Proofs.YtdejhenkdbjakaaDoor
