/-
  No cell of these rows narrows 'for every input' (looked for: loops, veiled, ifaces, maps, wideKeys, modest, calm, conditions, laid).
  DERIVED. THE GIVEN ROWS OF THIS SEAT. 15 by the template 'for every input the law returns true; each argument reads behind the call as it read before'; 0 by the template 'total and deterministic' (their statements: YthejnlelegcgfaaTotals.lean).
  GIVEN WITH THE SEED: the statements are not yours to turn. If you find one false, say at which input.
  Laid BY PROGRAM, IN A SANDBOX (cutbox-rows.mjs): the forced cells as the released guide's own fill.sh prints them over the translation d7d8b01040b1ecfe… (all of the seat's roots in one cut). By AI agents, Wed Nov 11 2026. No macro, syntax, notation, axiom, sorry.
-/
import Derived.Test.YthejnlelegcgfaaChecked
import GoSem.Claim
import GoSem.ClaimJoined
import GoSem.ClaimMapViews
import Derived.JoinedTies
import Derived.KernelRfl
namespace Go.Proofs.Ythejnlelegcgfaa
/- THE CELL 'sum', in the pinned program and in every row, IS THE sha256 OF THE DUMP (.gsa) THAT YthejnlelegcgfaaProg.lean LOADS. Nothing in Lean hashes anything: it is a label: what it is worth is what the hold of that sum in a sandbox is worth. -/
noncomputable def Try.pinned : Pinned := { name := "ythejnlelegcgfaa", sum := "d7d8b01040b1ecfe75d157ac7410406cf7ecb5dca7f729b50dea96d54aad779b", checked := Try.checked }
namespace Rows
def none {H : Type} : Left H := { results := [], args := [] }

/-- 'gatelinelaw20.FitsTells': WHATEVER THE INPUT: true; the input reads as it did. -/
def fitsTellsSpec : ChangeSpec := { name := "fitsTells", fn := fun _ => fun
  | [d1, d2] => { results := [.lit (.bool true)], args := [d1, d2] }
  | _ => none }
def fitsTellsRow : OpenClaim := { program := "ythejnlelegcgfaa", sum := "d7d8b01040b1ecfe75d157ac7410406cf7ecb5dca7f729b50dea96d54aad779b", func := "gateline/gatelinelaw20.FitsTells", spec := "fitsTells", unfollowed := true, recurses := true, apart := false }
def FitsTellsSaid : Prop := fitsTellsRow.holds Try.pinned (OpenSpec.ofChange fitsTellsSpec)

/-- ITS FALSE NEIGHBOUR: 'it returns false'. Refute it at one input. -/
def fitsTellsWrong : ChangeSpec := { name := "fitsTells", fn := fun _ => fun
  | [d1, d2] => { results := [.lit (.bool false)], args := [d1, d2] }
  | _ => none }
def FitsTellsWrongFalsely : Prop := fitsTellsRow.holds Try.pinned (OpenSpec.ofChange fitsTellsWrong)

/-- 'gatelinelaw20.FitsMore': WHATEVER THE INPUT: true; the input reads as it did. -/
def fitsMoreSpec : ChangeSpec := { name := "fitsMore", fn := fun _ => fun
  | [d1, d2] => { results := [.lit (.bool true)], args := [d1, d2] }
  | _ => none }
def fitsMoreRow : OpenClaim := { program := "ythejnlelegcgfaa", sum := "d7d8b01040b1ecfe75d157ac7410406cf7ecb5dca7f729b50dea96d54aad779b", func := "gateline/gatelinelaw20.FitsMore", spec := "fitsMore", unfollowed := true, recurses := true, apart := false }
def FitsMoreSaid : Prop := fitsMoreRow.holds Try.pinned (OpenSpec.ofChange fitsMoreSpec)

/-- ITS FALSE NEIGHBOUR: 'it returns false'. Refute it at one input. -/
def fitsMoreWrong : ChangeSpec := { name := "fitsMore", fn := fun _ => fun
  | [d1, d2] => { results := [.lit (.bool false)], args := [d1, d2] }
  | _ => none }
def FitsMoreWrongFalsely : Prop := fitsMoreRow.holds Try.pinned (OpenSpec.ofChange fitsMoreWrong)

/-- 'gatelinelaw12.BcdNumbers': WHATEVER THE INPUT: true; the input reads as it did. -/
def bcdNumbersSpec : ChangeSpec := { name := "bcdNumbers", fn := fun _ => fun
  | [d1, d2, d3] => { results := [.lit (.bool true)], args := [d1, d2, d3] }
  | _ => none }
def bcdNumbersRow : OpenClaim := { program := "ythejnlelegcgfaa", sum := "d7d8b01040b1ecfe75d157ac7410406cf7ecb5dca7f729b50dea96d54aad779b", func := "gateline/gatelinelaw12.BcdNumbers", spec := "bcdNumbers", unfollowed := true, recurses := true, apart := false }
def BcdNumbersSaid : Prop := bcdNumbersRow.holds Try.pinned (OpenSpec.ofChange bcdNumbersSpec)

/-- ITS FALSE NEIGHBOUR: 'it returns false'. Refute it at one input. -/
def bcdNumbersWrong : ChangeSpec := { name := "bcdNumbers", fn := fun _ => fun
  | [d1, d2, d3] => { results := [.lit (.bool false)], args := [d1, d2, d3] }
  | _ => none }
def BcdNumbersWrongFalsely : Prop := bcdNumbersRow.holds Try.pinned (OpenSpec.ofChange bcdNumbersWrong)

/-- 'gatelinelaw12.BcdJoins': WHATEVER THE INPUT: true; the input reads as it did. -/
def bcdJoinsSpec : ChangeSpec := { name := "bcdJoins", fn := fun _ => fun
  | [d1, d2, d3] => { results := [.lit (.bool true)], args := [d1, d2, d3] }
  | _ => none }
def bcdJoinsRow : OpenClaim := { program := "ythejnlelegcgfaa", sum := "d7d8b01040b1ecfe75d157ac7410406cf7ecb5dca7f729b50dea96d54aad779b", func := "gateline/gatelinelaw12.BcdJoins", spec := "bcdJoins", unfollowed := true, recurses := true, apart := false }
def BcdJoinsSaid : Prop := bcdJoinsRow.holds Try.pinned (OpenSpec.ofChange bcdJoinsSpec)

/-- ITS FALSE NEIGHBOUR: 'it returns false'. Refute it at one input. -/
def bcdJoinsWrong : ChangeSpec := { name := "bcdJoins", fn := fun _ => fun
  | [d1, d2, d3] => { results := [.lit (.bool false)], args := [d1, d2, d3] }
  | _ => none }
def BcdJoinsWrongFalsely : Prop := bcdJoinsRow.holds Try.pinned (OpenSpec.ofChange bcdJoinsWrong)

/-- 'gatelinelaw12.BcdBack': WHATEVER THE INPUT: true; the input reads as it did. -/
def bcdBackSpec : ChangeSpec := { name := "bcdBack", fn := fun _ => fun
  | [d1, d2, d3] => { results := [.lit (.bool true)], args := [d1, d2, d3] }
  | _ => none }
def bcdBackRow : OpenClaim := { program := "ythejnlelegcgfaa", sum := "d7d8b01040b1ecfe75d157ac7410406cf7ecb5dca7f729b50dea96d54aad779b", func := "gateline/gatelinelaw12.BcdBack", spec := "bcdBack", unfollowed := true, recurses := true, apart := false }
def BcdBackSaid : Prop := bcdBackRow.holds Try.pinned (OpenSpec.ofChange bcdBackSpec)

/-- ITS FALSE NEIGHBOUR: 'it returns false'. Refute it at one input. -/
def bcdBackWrong : ChangeSpec := { name := "bcdBack", fn := fun _ => fun
  | [d1, d2, d3] => { results := [.lit (.bool false)], args := [d1, d2, d3] }
  | _ => none }
def BcdBackWrongFalsely : Prop := bcdBackRow.holds Try.pinned (OpenSpec.ofChange bcdBackWrong)

/-- 'gatelinelaw12.BcdSplits': WHATEVER THE INPUT: true; the input reads as it did. -/
def bcdSplitsSpec : ChangeSpec := { name := "bcdSplits", fn := fun _ => fun
  | [d1, d2, d3] => { results := [.lit (.bool true)], args := [d1, d2, d3] }
  | _ => none }
def bcdSplitsRow : OpenClaim := { program := "ythejnlelegcgfaa", sum := "d7d8b01040b1ecfe75d157ac7410406cf7ecb5dca7f729b50dea96d54aad779b", func := "gateline/gatelinelaw12.BcdSplits", spec := "bcdSplits", unfollowed := true, recurses := true, apart := false }
def BcdSplitsSaid : Prop := bcdSplitsRow.holds Try.pinned (OpenSpec.ofChange bcdSplitsSpec)

/-- ITS FALSE NEIGHBOUR: 'it returns false'. Refute it at one input. -/
def bcdSplitsWrong : ChangeSpec := { name := "bcdSplits", fn := fun _ => fun
  | [d1, d2, d3] => { results := [.lit (.bool false)], args := [d1, d2, d3] }
  | _ => none }
def BcdSplitsWrongFalsely : Prop := bcdSplitsRow.holds Try.pinned (OpenSpec.ofChange bcdSplitsWrong)

/-- 'gatelinelaw12.BcdOrder': WHATEVER THE INPUT: true; the input reads as it did. -/
def bcdOrderSpec : ChangeSpec := { name := "bcdOrder", fn := fun _ => fun
  | [d1, d2, d3] => { results := [.lit (.bool true)], args := [d1, d2, d3] }
  | _ => none }
def bcdOrderRow : OpenClaim := { program := "ythejnlelegcgfaa", sum := "d7d8b01040b1ecfe75d157ac7410406cf7ecb5dca7f729b50dea96d54aad779b", func := "gateline/gatelinelaw12.BcdOrder", spec := "bcdOrder", unfollowed := true, recurses := true, apart := false }
def BcdOrderSaid : Prop := bcdOrderRow.holds Try.pinned (OpenSpec.ofChange bcdOrderSpec)

/-- ITS FALSE NEIGHBOUR: 'it returns false'. Refute it at one input. -/
def bcdOrderWrong : ChangeSpec := { name := "bcdOrder", fn := fun _ => fun
  | [d1, d2, d3] => { results := [.lit (.bool false)], args := [d1, d2, d3] }
  | _ => none }
def BcdOrderWrongFalsely : Prop := bcdOrderRow.holds Try.pinned (OpenSpec.ofChange bcdOrderWrong)

/-- 'gatelinelaw22.NegoPicks': WHATEVER THE INPUT: true; the input reads as it did. -/
def negoPicksSpec : ChangeSpec := { name := "negoPicks", fn := fun _ => fun
  | [d1, d2, d3] => { results := [.lit (.bool true)], args := [d1, d2, d3] }
  | _ => none }
def negoPicksRow : OpenClaim := { program := "ythejnlelegcgfaa", sum := "d7d8b01040b1ecfe75d157ac7410406cf7ecb5dca7f729b50dea96d54aad779b", func := "gateline/gatelinelaw22.NegoPicks", spec := "negoPicks", unfollowed := true, recurses := true, apart := false }
def NegoPicksSaid : Prop := negoPicksRow.holds Try.pinned (OpenSpec.ofChange negoPicksSpec)

/-- ITS FALSE NEIGHBOUR: 'it returns false'. Refute it at one input. -/
def negoPicksWrong : ChangeSpec := { name := "negoPicks", fn := fun _ => fun
  | [d1, d2, d3] => { results := [.lit (.bool false)], args := [d1, d2, d3] }
  | _ => none }
def NegoPicksWrongFalsely : Prop := negoPicksRow.holds Try.pinned (OpenSpec.ofChange negoPicksWrong)

/-- 'gatelinelaw22.NegoBoth': WHATEVER THE INPUT: true; the input reads as it did. -/
def negoBothSpec : ChangeSpec := { name := "negoBoth", fn := fun _ => fun
  | [d1, d2, d3] => { results := [.lit (.bool true)], args := [d1, d2, d3] }
  | _ => none }
def negoBothRow : OpenClaim := { program := "ythejnlelegcgfaa", sum := "d7d8b01040b1ecfe75d157ac7410406cf7ecb5dca7f729b50dea96d54aad779b", func := "gateline/gatelinelaw22.NegoBoth", spec := "negoBoth", unfollowed := true, recurses := true, apart := false }
def NegoBothSaid : Prop := negoBothRow.holds Try.pinned (OpenSpec.ofChange negoBothSpec)

/-- ITS FALSE NEIGHBOUR: 'it returns false'. Refute it at one input. -/
def negoBothWrong : ChangeSpec := { name := "negoBoth", fn := fun _ => fun
  | [d1, d2, d3] => { results := [.lit (.bool false)], args := [d1, d2, d3] }
  | _ => none }
def NegoBothWrongFalsely : Prop := negoBothRow.holds Try.pinned (OpenSpec.ofChange negoBothWrong)

/-- 'gatelinelaw22.NegoMore': WHATEVER THE INPUT: true; the input reads as it did. -/
def negoMoreSpec : ChangeSpec := { name := "negoMore", fn := fun _ => fun
  | [d1, d2, d3] => { results := [.lit (.bool true)], args := [d1, d2, d3] }
  | _ => none }
def negoMoreRow : OpenClaim := { program := "ythejnlelegcgfaa", sum := "d7d8b01040b1ecfe75d157ac7410406cf7ecb5dca7f729b50dea96d54aad779b", func := "gateline/gatelinelaw22.NegoMore", spec := "negoMore", unfollowed := true, recurses := true, apart := false }
def NegoMoreSaid : Prop := negoMoreRow.holds Try.pinned (OpenSpec.ofChange negoMoreSpec)

/-- ITS FALSE NEIGHBOUR: 'it returns false'. Refute it at one input. -/
def negoMoreWrong : ChangeSpec := { name := "negoMore", fn := fun _ => fun
  | [d1, d2, d3] => { results := [.lit (.bool false)], args := [d1, d2, d3] }
  | _ => none }
def NegoMoreWrongFalsely : Prop := negoMoreRow.holds Try.pinned (OpenSpec.ofChange negoMoreWrong)

/-- 'gatelinelaw13.LayoutPuts': WHATEVER THE INPUT: true; the input reads as it did. -/
def layoutPutsSpec : ChangeSpec := { name := "layoutPuts", fn := fun _ => fun
  | [d1, d2] => { results := [.lit (.bool true)], args := [d1, d2] }
  | _ => none }
def layoutPutsRow : OpenClaim := { program := "ythejnlelegcgfaa", sum := "d7d8b01040b1ecfe75d157ac7410406cf7ecb5dca7f729b50dea96d54aad779b", func := "gateline/gatelinelaw13.LayoutPuts", spec := "layoutPuts", unfollowed := true, recurses := true, apart := false }
def LayoutPutsSaid : Prop := layoutPutsRow.holds Try.pinned (OpenSpec.ofChange layoutPutsSpec)

/-- ITS FALSE NEIGHBOUR: 'it returns false'. Refute it at one input. -/
def layoutPutsWrong : ChangeSpec := { name := "layoutPuts", fn := fun _ => fun
  | [d1, d2] => { results := [.lit (.bool false)], args := [d1, d2] }
  | _ => none }
def LayoutPutsWrongFalsely : Prop := layoutPutsRow.holds Try.pinned (OpenSpec.ofChange layoutPutsWrong)

/-- 'gatelinelaw13.LayoutGets': WHATEVER THE INPUT: true; the input reads as it did. -/
def layoutGetsSpec : ChangeSpec := { name := "layoutGets", fn := fun _ => fun
  | [d] => { results := [.lit (.bool true)], args := [d] }
  | _ => none }
def layoutGetsRow : OpenClaim := { program := "ythejnlelegcgfaa", sum := "d7d8b01040b1ecfe75d157ac7410406cf7ecb5dca7f729b50dea96d54aad779b", func := "gateline/gatelinelaw13.LayoutGets", spec := "layoutGets", unfollowed := true, recurses := true, apart := false }
def LayoutGetsSaid : Prop := layoutGetsRow.holds Try.pinned (OpenSpec.ofChange layoutGetsSpec)

/-- ITS FALSE NEIGHBOUR: 'it returns false'. Refute it at one input. -/
def layoutGetsWrong : ChangeSpec := { name := "layoutGets", fn := fun _ => fun
  | [d] => { results := [.lit (.bool false)], args := [d] }
  | _ => none }
def LayoutGetsWrongFalsely : Prop := layoutGetsRow.holds Try.pinned (OpenSpec.ofChange layoutGetsWrong)

/-- 'gatelinelaw13.LayoutBack': WHATEVER THE INPUT: true; the input reads as it did. -/
def layoutBackSpec : ChangeSpec := { name := "layoutBack", fn := fun _ => fun
  | [d1, d2] => { results := [.lit (.bool true)], args := [d1, d2] }
  | _ => none }
def layoutBackRow : OpenClaim := { program := "ythejnlelegcgfaa", sum := "d7d8b01040b1ecfe75d157ac7410406cf7ecb5dca7f729b50dea96d54aad779b", func := "gateline/gatelinelaw13.LayoutBack", spec := "layoutBack", unfollowed := true, recurses := true, apart := false }
def LayoutBackSaid : Prop := layoutBackRow.holds Try.pinned (OpenSpec.ofChange layoutBackSpec)

/-- ITS FALSE NEIGHBOUR: 'it returns false'. Refute it at one input. -/
def layoutBackWrong : ChangeSpec := { name := "layoutBack", fn := fun _ => fun
  | [d1, d2] => { results := [.lit (.bool false)], args := [d1, d2] }
  | _ => none }
def LayoutBackWrongFalsely : Prop := layoutBackRow.holds Try.pinned (OpenSpec.ofChange layoutBackWrong)

/-- 'gatelinelaw13.LayoutUnlike': WHATEVER THE INPUT: true; the input reads as it did. -/
def layoutUnlikeSpec : ChangeSpec := { name := "layoutUnlike", fn := fun _ => fun
  | [d1, d2] => { results := [.lit (.bool true)], args := [d1, d2] }
  | _ => none }
def layoutUnlikeRow : OpenClaim := { program := "ythejnlelegcgfaa", sum := "d7d8b01040b1ecfe75d157ac7410406cf7ecb5dca7f729b50dea96d54aad779b", func := "gateline/gatelinelaw13.LayoutUnlike", spec := "layoutUnlike", unfollowed := true, recurses := true, apart := false }
def LayoutUnlikeSaid : Prop := layoutUnlikeRow.holds Try.pinned (OpenSpec.ofChange layoutUnlikeSpec)

/-- ITS FALSE NEIGHBOUR: 'it returns false'. Refute it at one input. -/
def layoutUnlikeWrong : ChangeSpec := { name := "layoutUnlike", fn := fun _ => fun
  | [d1, d2] => { results := [.lit (.bool false)], args := [d1, d2] }
  | _ => none }
def LayoutUnlikeWrongFalsely : Prop := layoutUnlikeRow.holds Try.pinned (OpenSpec.ofChange layoutUnlikeWrong)

/-- 'gatelinelaw13.LayoutJourney': WHATEVER THE INPUT: true; the input reads as it did. -/
def layoutJourneySpec : ChangeSpec := { name := "layoutJourney", fn := fun _ => fun
  | [d1, d2] => { results := [.lit (.bool true)], args := [d1, d2] }
  | _ => none }
def layoutJourneyRow : OpenClaim := { program := "ythejnlelegcgfaa", sum := "d7d8b01040b1ecfe75d157ac7410406cf7ecb5dca7f729b50dea96d54aad779b", func := "gateline/gatelinelaw13.LayoutJourney", spec := "layoutJourney", unfollowed := true, recurses := true, apart := false }
def LayoutJourneySaid : Prop := layoutJourneyRow.holds Try.pinned (OpenSpec.ofChange layoutJourneySpec)

/-- ITS FALSE NEIGHBOUR: 'it returns false'. Refute it at one input. -/
def layoutJourneyWrong : ChangeSpec := { name := "layoutJourney", fn := fun _ => fun
  | [d1, d2] => { results := [.lit (.bool false)], args := [d1, d2] }
  | _ => none }
def LayoutJourneyWrongFalsely : Prop := layoutJourneyRow.holds Try.pinned (OpenSpec.ofChange layoutJourneyWrong)

/- THE SECOND FORM. 'bulk': how many values and letters a reading holds, each counted each time it is reached (what is shared counts as often as it is met; a slice's spare places count too). A statement '..UptoSaid' is the law's where the arguments, and the package variables that the reading takes, are together of bulk at most 1048576: NARROWER than '..Said'. Prove '..Said' where nothing that the law and all that it calls make is longer than what came in: it says more and counts as full. Else prove '..UptoSaid'. A law counts once. -/
mutual
def uptoBulk {H : Type} : DataW H → Nat
  | .lit (.string bytes) => bytes.length + 1
  | .lit _ => 1
  | .nil => 1
  | .ptr d => uptoBulk d + 1
  | .slice elems spare => uptoBulkAll elems + uptoBulkAll spare + 1
  | .agg parts => uptoBulkAll parts + 1
  | .iface _ d => uptoBulk d + 1
  | .map entries => uptoBulkEntries entries + 1
  | .held _ => 1
def uptoBulkAll {H : Type} : List (DataW H) → Nat
  | [] => 0
  | d :: r => uptoBulk d + uptoBulkAll r
def uptoBulkEntries {H : Type} : List (Lit × DataW H) → Nat
  | [] => 0
  | x :: r => uptoBulkEntry x + uptoBulkEntries r
def uptoBulkEntry {H : Type} : Lit × DataW H → Nat
  | (.string bytes, d) => bytes.length + uptoBulk d + 1
  | (_, d) => uptoBulk d + 1
 end
def uptoSmall : (H : Type) → List (DataW H) → Bool := fun _ ds => decide (uptoBulkAll ds ≤ 1048576)
def OpenSpec.upto (s : _root_.Go.ChangeSpec) : _root_.Go.OpenSpec := { _root_.Go.OpenSpec.ofChange s with cond := some uptoSmall }

/-- 'gatelinelaw20.FitsTells', WHERE WHAT IT READS IS OF BULK AT MOST 1048576: true; the input reads as it did. -/
def fitsTellsUptoRow : OpenClaim := { program := "ythejnlelegcgfaa", sum := "d7d8b01040b1ecfe75d157ac7410406cf7ecb5dca7f729b50dea96d54aad779b", func := "gateline/gatelinelaw20.FitsTells", spec := "fitsTells", unfollowed := true, recurses := true, apart := false, narrowed := true }
def FitsTellsUptoSaid : Prop := fitsTellsUptoRow.holds Try.pinned (OpenSpec.upto fitsTellsSpec)

/-- 'gatelinelaw20.FitsMore', WHERE WHAT IT READS IS OF BULK AT MOST 1048576: true; the input reads as it did. -/
def fitsMoreUptoRow : OpenClaim := { program := "ythejnlelegcgfaa", sum := "d7d8b01040b1ecfe75d157ac7410406cf7ecb5dca7f729b50dea96d54aad779b", func := "gateline/gatelinelaw20.FitsMore", spec := "fitsMore", unfollowed := true, recurses := true, apart := false, narrowed := true }
def FitsMoreUptoSaid : Prop := fitsMoreUptoRow.holds Try.pinned (OpenSpec.upto fitsMoreSpec)

/-- 'gatelinelaw12.BcdNumbers', WHERE WHAT IT READS IS OF BULK AT MOST 1048576: true; the input reads as it did. -/
def bcdNumbersUptoRow : OpenClaim := { program := "ythejnlelegcgfaa", sum := "d7d8b01040b1ecfe75d157ac7410406cf7ecb5dca7f729b50dea96d54aad779b", func := "gateline/gatelinelaw12.BcdNumbers", spec := "bcdNumbers", unfollowed := true, recurses := true, apart := false, narrowed := true }
def BcdNumbersUptoSaid : Prop := bcdNumbersUptoRow.holds Try.pinned (OpenSpec.upto bcdNumbersSpec)

/-- 'gatelinelaw12.BcdJoins', WHERE WHAT IT READS IS OF BULK AT MOST 1048576: true; the input reads as it did. -/
def bcdJoinsUptoRow : OpenClaim := { program := "ythejnlelegcgfaa", sum := "d7d8b01040b1ecfe75d157ac7410406cf7ecb5dca7f729b50dea96d54aad779b", func := "gateline/gatelinelaw12.BcdJoins", spec := "bcdJoins", unfollowed := true, recurses := true, apart := false, narrowed := true }
def BcdJoinsUptoSaid : Prop := bcdJoinsUptoRow.holds Try.pinned (OpenSpec.upto bcdJoinsSpec)

/-- 'gatelinelaw12.BcdBack', WHERE WHAT IT READS IS OF BULK AT MOST 1048576: true; the input reads as it did. -/
def bcdBackUptoRow : OpenClaim := { program := "ythejnlelegcgfaa", sum := "d7d8b01040b1ecfe75d157ac7410406cf7ecb5dca7f729b50dea96d54aad779b", func := "gateline/gatelinelaw12.BcdBack", spec := "bcdBack", unfollowed := true, recurses := true, apart := false, narrowed := true }
def BcdBackUptoSaid : Prop := bcdBackUptoRow.holds Try.pinned (OpenSpec.upto bcdBackSpec)

/-- 'gatelinelaw12.BcdSplits', WHERE WHAT IT READS IS OF BULK AT MOST 1048576: true; the input reads as it did. -/
def bcdSplitsUptoRow : OpenClaim := { program := "ythejnlelegcgfaa", sum := "d7d8b01040b1ecfe75d157ac7410406cf7ecb5dca7f729b50dea96d54aad779b", func := "gateline/gatelinelaw12.BcdSplits", spec := "bcdSplits", unfollowed := true, recurses := true, apart := false, narrowed := true }
def BcdSplitsUptoSaid : Prop := bcdSplitsUptoRow.holds Try.pinned (OpenSpec.upto bcdSplitsSpec)

/-- 'gatelinelaw12.BcdOrder', WHERE WHAT IT READS IS OF BULK AT MOST 1048576: true; the input reads as it did. -/
def bcdOrderUptoRow : OpenClaim := { program := "ythejnlelegcgfaa", sum := "d7d8b01040b1ecfe75d157ac7410406cf7ecb5dca7f729b50dea96d54aad779b", func := "gateline/gatelinelaw12.BcdOrder", spec := "bcdOrder", unfollowed := true, recurses := true, apart := false, narrowed := true }
def BcdOrderUptoSaid : Prop := bcdOrderUptoRow.holds Try.pinned (OpenSpec.upto bcdOrderSpec)

/-- 'gatelinelaw22.NegoPicks', WHERE WHAT IT READS IS OF BULK AT MOST 1048576: true; the input reads as it did. -/
def negoPicksUptoRow : OpenClaim := { program := "ythejnlelegcgfaa", sum := "d7d8b01040b1ecfe75d157ac7410406cf7ecb5dca7f729b50dea96d54aad779b", func := "gateline/gatelinelaw22.NegoPicks", spec := "negoPicks", unfollowed := true, recurses := true, apart := false, narrowed := true }
def NegoPicksUptoSaid : Prop := negoPicksUptoRow.holds Try.pinned (OpenSpec.upto negoPicksSpec)

/-- 'gatelinelaw22.NegoBoth', WHERE WHAT IT READS IS OF BULK AT MOST 1048576: true; the input reads as it did. -/
def negoBothUptoRow : OpenClaim := { program := "ythejnlelegcgfaa", sum := "d7d8b01040b1ecfe75d157ac7410406cf7ecb5dca7f729b50dea96d54aad779b", func := "gateline/gatelinelaw22.NegoBoth", spec := "negoBoth", unfollowed := true, recurses := true, apart := false, narrowed := true }
def NegoBothUptoSaid : Prop := negoBothUptoRow.holds Try.pinned (OpenSpec.upto negoBothSpec)

/-- 'gatelinelaw22.NegoMore', WHERE WHAT IT READS IS OF BULK AT MOST 1048576: true; the input reads as it did. -/
def negoMoreUptoRow : OpenClaim := { program := "ythejnlelegcgfaa", sum := "d7d8b01040b1ecfe75d157ac7410406cf7ecb5dca7f729b50dea96d54aad779b", func := "gateline/gatelinelaw22.NegoMore", spec := "negoMore", unfollowed := true, recurses := true, apart := false, narrowed := true }
def NegoMoreUptoSaid : Prop := negoMoreUptoRow.holds Try.pinned (OpenSpec.upto negoMoreSpec)

/-- 'gatelinelaw13.LayoutPuts', WHERE WHAT IT READS IS OF BULK AT MOST 1048576: true; the input reads as it did. -/
def layoutPutsUptoRow : OpenClaim := { program := "ythejnlelegcgfaa", sum := "d7d8b01040b1ecfe75d157ac7410406cf7ecb5dca7f729b50dea96d54aad779b", func := "gateline/gatelinelaw13.LayoutPuts", spec := "layoutPuts", unfollowed := true, recurses := true, apart := false, narrowed := true }
def LayoutPutsUptoSaid : Prop := layoutPutsUptoRow.holds Try.pinned (OpenSpec.upto layoutPutsSpec)

/-- 'gatelinelaw13.LayoutGets', WHERE WHAT IT READS IS OF BULK AT MOST 1048576: true; the input reads as it did. -/
def layoutGetsUptoRow : OpenClaim := { program := "ythejnlelegcgfaa", sum := "d7d8b01040b1ecfe75d157ac7410406cf7ecb5dca7f729b50dea96d54aad779b", func := "gateline/gatelinelaw13.LayoutGets", spec := "layoutGets", unfollowed := true, recurses := true, apart := false, narrowed := true }
def LayoutGetsUptoSaid : Prop := layoutGetsUptoRow.holds Try.pinned (OpenSpec.upto layoutGetsSpec)

/-- 'gatelinelaw13.LayoutBack', WHERE WHAT IT READS IS OF BULK AT MOST 1048576: true; the input reads as it did. -/
def layoutBackUptoRow : OpenClaim := { program := "ythejnlelegcgfaa", sum := "d7d8b01040b1ecfe75d157ac7410406cf7ecb5dca7f729b50dea96d54aad779b", func := "gateline/gatelinelaw13.LayoutBack", spec := "layoutBack", unfollowed := true, recurses := true, apart := false, narrowed := true }
def LayoutBackUptoSaid : Prop := layoutBackUptoRow.holds Try.pinned (OpenSpec.upto layoutBackSpec)

/-- 'gatelinelaw13.LayoutUnlike', WHERE WHAT IT READS IS OF BULK AT MOST 1048576: true; the input reads as it did. -/
def layoutUnlikeUptoRow : OpenClaim := { program := "ythejnlelegcgfaa", sum := "d7d8b01040b1ecfe75d157ac7410406cf7ecb5dca7f729b50dea96d54aad779b", func := "gateline/gatelinelaw13.LayoutUnlike", spec := "layoutUnlike", unfollowed := true, recurses := true, apart := false, narrowed := true }
def LayoutUnlikeUptoSaid : Prop := layoutUnlikeUptoRow.holds Try.pinned (OpenSpec.upto layoutUnlikeSpec)

/-- 'gatelinelaw13.LayoutJourney', WHERE WHAT IT READS IS OF BULK AT MOST 1048576: true; the input reads as it did. -/
def layoutJourneyUptoRow : OpenClaim := { program := "ythejnlelegcgfaa", sum := "d7d8b01040b1ecfe75d157ac7410406cf7ecb5dca7f729b50dea96d54aad779b", func := "gateline/gatelinelaw13.LayoutJourney", spec := "layoutJourney", unfollowed := true, recurses := true, apart := false, narrowed := true }
def LayoutJourneyUptoSaid : Prop := layoutJourneyUptoRow.holds Try.pinned (OpenSpec.upto layoutJourneySpec)

end Rows
end Go.Proofs.Ythejnlelegcgfaa
