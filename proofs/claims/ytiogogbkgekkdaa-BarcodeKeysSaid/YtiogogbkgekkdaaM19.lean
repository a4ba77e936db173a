/- Layer 19, plain: what a barcode says as bytes, and what bytes say. No condition. -/
import Derived.Test.YtiogogbkgekkdaaM13
import Derived.Test.YtiogogbkgekkdaaM07
import Derived.Test.YtiogogbkgekkdaaM18
namespace Go.Proofs.Ytiogogbkgekkdaa
open Go.RowKit
set_option linter.unusedVariables false
set_option maxRecDepth 100000
set_option linter.unusedSimpArgs false

def encF (ks : List Ky) (l : List Int) : List Fd × Int := if ringB ks then fpE l else ([], 1)
/-- What barcode.Encode computes. -/
def encE (ks : List Ky) (l : List Int) : List Int × Int :=
  if (encF ks l).2 ≠ 0 then ([], (encF ks l).2) else match findE ks (l.getD 11 0) with
    | (none, e) => ([], e)
    | (some k, _) => if (putE17 (encF ks l).1).2 ≠ 0 then ([], (putE17 (encF ks l).1).2) else (fortyPut (putF (encF ks l).1 ++ tagN k.sec (66 :: putF (encF ks l).1)), 0)
/-- What barcode.open computes: the body, the tag, the fields; the error. -/
def openE (s : List Int) : (List Int × List Int × List Fd) × Int :=
  if (fortyGet s).2 ≠ 0 then (([], [], []), (fortyGet s).2)
  else if (fortyGet s).1.length < 32 then (([], [], []), 14)
  else (((fortyGet s).1.take ((fortyGet s).1.length - 32), (fortyGet s).1.drop ((fortyGet s).1.length - 32), (tlvGet ((fortyGet s).1.take ((fortyGet s).1.length - 32))).1), (tlvGet ((fortyGet s).1.take ((fortyGet s).1.length - 32))).2)
/-- What a body, a tag and fields say. -/
def decF (ks : List Ky) (bd tg : List Int) (q : List Fd) : List Int × Int :=
  if (fgE q).2 ≠ 0 then (zL, (fgE q).2)
  else match findE ks ((fgE q).1.getD 11 0) with
    | (none, e) => (zL, e)
    | (some k, _) => if (tg == tagN k.sec (66 :: bd)) = true then ((fgE q).1, 0) else (zL, 11)
/-- What barcode.Decode computes. -/
def decE (ks : List Ky) (s : List Int) : List Int × Int :=
  if ringB ks = false then (zL, 1)
  else if (openE s).2 ≠ 0 then (zL, (openE s).2)
  else decF ks (openE s).1.1 (openE s).1.2.1 (openE s).1.2.2
/-- What barcode.Version computes. -/
def verF (l : List Fd) : Int × Int := match l with
  | [] => (0, 12)
  | f :: _ => if f.tag ≠ 1 ∨ f.val.length ≠ 1 ∨ f.val.getD 0 0 < 1 ∨ 3 < f.val.getD 0 0 then (0, 12) else (f.val.getD 0 0, 0)
def verW (s : List Int) : Int × Int := if (openE s).2 ≠ 0 then (0, (openE s).2) else verF (openE s).1.2.2
end Go.Proofs.Ytiogogbkgekkdaa
