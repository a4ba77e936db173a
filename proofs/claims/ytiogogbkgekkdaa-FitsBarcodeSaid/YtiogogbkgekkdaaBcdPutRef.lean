/- A number as digits, the reference's side: gatelineref12.Put computes the same digits and the same error as bcd.Put. -/
import Derived.Test.YtiogogbkgekkdaaBcdPut
namespace Go.Proofs.Ytiogogbkgekkdaa
open Go.RowKit
set_option linter.unusedVariables false
set_option maxRecDepth 100000
set_option linter.unusedSimpArgs false

end Go.Proofs.Ytiogogbkgekkdaa
