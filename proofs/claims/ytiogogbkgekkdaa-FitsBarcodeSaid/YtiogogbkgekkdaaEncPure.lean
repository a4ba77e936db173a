/- Layer 19, plain: what a barcode says as bytes, and what bytes say. No condition. -/
import Derived.Test.YtiogogbkgekkdaaFieldPure
import Derived.Test.YtiogogbkgekkdaaRingFind
import Derived.Test.YtiogogbkgekkdaaFortyPure
import Derived.Test.YtiogogbkgekkdaaMac
namespace Go.Proofs.Ytiogogbkgekkdaa
open Go.RowKit
set_option linter.unusedVariables false
set_option maxRecDepth 100000
set_option linter.unusedSimpArgs false

def encF (ks : List Ky) (l : List Int) : List Fd × Int := if ringB ks then fpE l else ([], 1)
/-- What barcode.Encode computes. -/
def encE (ks : List Ky) (l : List Int) : List Int × Int :=
  if (encF ks l).2 ≠ 0 then ([], (encF ks l).2) else match findE ks (l.getD 11 0) with
    | (none, e) => ([], e)
    | (some k, _) => if (putE17 (encF ks l).1).2 ≠ 0 then ([], (putE17 (encF ks l).1).2) else (fortyPut (putF (encF ks l).1 ++ tagN k.sec (66 :: putF (encF ks l).1)), 0)
end Go.Proofs.Ytiogogbkgekkdaa
