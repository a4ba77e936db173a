/- Is a list one of versions: what nego.Is, its rises, and the reference's Is tell of every list. No condition. -/
import Derived.Test.YtpmfmkkifkpdcaaNegoPure
import Derived.Test.YtpmfmkkifkpdcaaSame
import Derived.Test.YtpmfmkkifkpdcaaBcdPut
namespace Go.Proofs.Ytpmfmkkifkpdcaa
open Go.RowKit
set_option linter.unusedVariables false
set_option maxRecDepth 100000
set_option linter.unusedSimpArgs false

def IsRet (l : List Int) (w : World) (e : Ending) (w' : World) : Prop := e = .returned (.bool (isB l)) ∧ ∃ n, w' = w.drewN n

end Go.Proofs.Ytpmfmkkifkpdcaa
