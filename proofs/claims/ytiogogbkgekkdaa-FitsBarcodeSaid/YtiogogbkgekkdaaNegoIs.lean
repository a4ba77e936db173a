/- Is a list one of versions: what nego.Is, its rises, and the reference's Is tell of every list. No condition. -/
import Derived.Test.YtiogogbkgekkdaaNegoPure
import Derived.Test.YtiogogbkgekkdaaSame
import Derived.Test.YtiogogbkgekkdaaBcdPut
namespace Go.Proofs.Ytiogogbkgekkdaa
open Go.RowKit
set_option linter.unusedVariables false
set_option maxRecDepth 100000
set_option linter.unusedSimpArgs false

def IsRet (l : List Int) (w : World) (e : Ending) (w' : World) : Prop := e = .returned (.bool (isB l)) ∧ ∃ n, w' = w.drewN n

end Go.Proofs.Ytiogogbkgekkdaa
