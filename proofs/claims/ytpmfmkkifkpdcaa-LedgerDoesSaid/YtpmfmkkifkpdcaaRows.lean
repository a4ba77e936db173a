/-
  No cell of these rows narrows 'for every input' (looked for: loops, veiled, ifaces, maps, wideKeys, modest, calm, conditions, laid).
  DERIVED. THE GIVEN ROWS OF THIS SEAT. 8 by the template 'for every input the law returns true; each argument reads behind the call as it read before'; 0 by the template 'total and deterministic' (their statements: YtpmfmkkifkpdcaaTotals.lean).
  GIVEN WITH THE SEED: the statements are not yours to turn. If you find one false, say at which input.
  Laid BY PROGRAM, IN A SANDBOX (cutbox-rows.mjs): the forced cells as the released guide's own fill.sh prints them over the translation a37efead1c42a96b… (all of the seat's roots in one cut). By AI agents, Wed Nov 11 2026. No macro, syntax, notation, axiom, sorry.
-/
import Derived.Test.YtpmfmkkifkpdcaaChecked
import GoSem.Claim
import GoSem.ClaimJoined
import GoSem.ClaimMapViews
import Derived.JoinedTies
import Derived.KernelRfl
namespace Go.Proofs.Ytpmfmkkifkpdcaa
/- THE CELL 'sum', in the pinned program and in every row, IS THE sha256 OF THE DUMP (.gsa) THAT YtpmfmkkifkpdcaaProg.lean LOADS. Nothing in Lean hashes anything: it is a label: what it is worth is what the hold of that sum in a sandbox is worth. -/
noncomputable def Try.pinned : Pinned := { name := "ytpmfmkkifkpdcaa", sum := "a37efead1c42a96b2045dbb92de9723de42f8cef86f753908d17190f23e26fed", checked := Try.checked }
namespace Rows
def none {H : Type} : Left H := { results := [], args := [] }

/-- 'gatelinelaw24.LedgerDoes': WHATEVER THE INPUT: true; the input reads as it did. -/
def ledgerDoesSpec : ChangeSpec := { name := "ledgerDoes", fn := fun _ => fun
  | [d1, d2, d3] => { results := [.lit (.bool true)], args := [d1, d2, d3] }
  | _ => none }
def ledgerDoesRow : OpenClaim := { program := "ytpmfmkkifkpdcaa", sum := "a37efead1c42a96b2045dbb92de9723de42f8cef86f753908d17190f23e26fed", func := "gateline/gatelinelaw24.LedgerDoes", spec := "ledgerDoes", unfollowed := true, recurses := true, plainKeys := false, apart := false }
def LedgerDoesSaid : Prop := ledgerDoesRow.holds Try.pinned (OpenSpec.ofChange ledgerDoesSpec)

/-- ITS FALSE NEIGHBOUR: 'it returns false'. Refute it at one input. -/
def ledgerDoesWrong : ChangeSpec := { name := "ledgerDoes", fn := fun _ => fun
  | [d1, d2, d3] => { results := [.lit (.bool false)], args := [d1, d2, d3] }
  | _ => none }
def LedgerDoesWrongFalsely : Prop := ledgerDoesRow.holds Try.pinned (OpenSpec.ofChange ledgerDoesWrong)

/-- 'gatelinelaw24.LedgerKeeps': WHATEVER THE INPUT: true; the input reads as it did. -/
def ledgerKeepsSpec : ChangeSpec := { name := "ledgerKeeps", fn := fun _ => fun
  | [d1, d2, d3] => { results := [.lit (.bool true)], args := [d1, d2, d3] }
  | _ => none }
def ledgerKeepsRow : OpenClaim := { program := "ytpmfmkkifkpdcaa", sum := "a37efead1c42a96b2045dbb92de9723de42f8cef86f753908d17190f23e26fed", func := "gateline/gatelinelaw24.LedgerKeeps", spec := "ledgerKeeps", unfollowed := true, recurses := true, plainKeys := false, apart := false }
def LedgerKeepsSaid : Prop := ledgerKeepsRow.holds Try.pinned (OpenSpec.ofChange ledgerKeepsSpec)

/-- ITS FALSE NEIGHBOUR: 'it returns false'. Refute it at one input. -/
def ledgerKeepsWrong : ChangeSpec := { name := "ledgerKeeps", fn := fun _ => fun
  | [d1, d2, d3] => { results := [.lit (.bool false)], args := [d1, d2, d3] }
  | _ => none }
def LedgerKeepsWrongFalsely : Prop := ledgerKeepsRow.holds Try.pinned (OpenSpec.ofChange ledgerKeepsWrong)

/-- 'gatelinelaw24.LedgerAll': WHATEVER THE INPUT: true; the input reads as it did. -/
def ledgerAllSpec : ChangeSpec := { name := "ledgerAll", fn := fun _ => fun
  | [d1, d2] => { results := [.lit (.bool true)], args := [d1, d2] }
  | _ => none }
def ledgerAllRow : OpenClaim := { program := "ytpmfmkkifkpdcaa", sum := "a37efead1c42a96b2045dbb92de9723de42f8cef86f753908d17190f23e26fed", func := "gateline/gatelinelaw24.LedgerAll", spec := "ledgerAll", unfollowed := true, recurses := true, plainKeys := false, apart := false }
def LedgerAllSaid : Prop := ledgerAllRow.holds Try.pinned (OpenSpec.ofChange ledgerAllSpec)

/-- ITS FALSE NEIGHBOUR: 'it returns false'. Refute it at one input. -/
def ledgerAllWrong : ChangeSpec := { name := "ledgerAll", fn := fun _ => fun
  | [d1, d2] => { results := [.lit (.bool false)], args := [d1, d2] }
  | _ => none }
def LedgerAllWrongFalsely : Prop := ledgerAllRow.holds Try.pinned (OpenSpec.ofChange ledgerAllWrong)

/-- 'gatelinelaw24.LedgerOrder': WHATEVER THE INPUT: true; the input reads as it did. -/
def ledgerOrderSpec : ChangeSpec := { name := "ledgerOrder", fn := fun _ => fun
  | [d] => { results := [.lit (.bool true)], args := [d] }
  | _ => none }
def ledgerOrderRow : OpenClaim := { program := "ytpmfmkkifkpdcaa", sum := "a37efead1c42a96b2045dbb92de9723de42f8cef86f753908d17190f23e26fed", func := "gateline/gatelinelaw24.LedgerOrder", spec := "ledgerOrder", unfollowed := true, recurses := true, plainKeys := false, apart := false }
def LedgerOrderSaid : Prop := ledgerOrderRow.holds Try.pinned (OpenSpec.ofChange ledgerOrderSpec)

/-- ITS FALSE NEIGHBOUR: 'it returns false'. Refute it at one input. -/
def ledgerOrderWrong : ChangeSpec := { name := "ledgerOrder", fn := fun _ => fun
  | [d] => { results := [.lit (.bool false)], args := [d] }
  | _ => none }
def LedgerOrderWrongFalsely : Prop := ledgerOrderRow.holds Try.pinned (OpenSpec.ofChange ledgerOrderWrong)

/-- 'gatelinelaw19.BarcodeEncodes': WHATEVER THE INPUT: true; the input reads as it did. -/
def barcodeEncodesSpec : ChangeSpec := { name := "barcodeEncodes", fn := fun _ => fun
  | [d1, d2] => { results := [.lit (.bool true)], args := [d1, d2] }
  | _ => none }
def barcodeEncodesRow : OpenClaim := { program := "ytpmfmkkifkpdcaa", sum := "a37efead1c42a96b2045dbb92de9723de42f8cef86f753908d17190f23e26fed", func := "gateline/gatelinelaw19.BarcodeEncodes", spec := "barcodeEncodes", unfollowed := true, recurses := true, plainKeys := false, apart := false }
def BarcodeEncodesSaid : Prop := barcodeEncodesRow.holds Try.pinned (OpenSpec.ofChange barcodeEncodesSpec)

/-- ITS FALSE NEIGHBOUR: 'it returns false'. Refute it at one input. -/
def barcodeEncodesWrong : ChangeSpec := { name := "barcodeEncodes", fn := fun _ => fun
  | [d1, d2] => { results := [.lit (.bool false)], args := [d1, d2] }
  | _ => none }
def BarcodeEncodesWrongFalsely : Prop := barcodeEncodesRow.holds Try.pinned (OpenSpec.ofChange barcodeEncodesWrong)

/-- 'gatelinelaw19.BarcodeDecodes': WHATEVER THE INPUT: true; the input reads as it did. -/
def barcodeDecodesSpec : ChangeSpec := { name := "barcodeDecodes", fn := fun _ => fun
  | [d1, d2] => { results := [.lit (.bool true)], args := [d1, d2] }
  | _ => none }
def barcodeDecodesRow : OpenClaim := { program := "ytpmfmkkifkpdcaa", sum := "a37efead1c42a96b2045dbb92de9723de42f8cef86f753908d17190f23e26fed", func := "gateline/gatelinelaw19.BarcodeDecodes", spec := "barcodeDecodes", unfollowed := true, recurses := true, plainKeys := false, apart := false }
def BarcodeDecodesSaid : Prop := barcodeDecodesRow.holds Try.pinned (OpenSpec.ofChange barcodeDecodesSpec)

/-- ITS FALSE NEIGHBOUR: 'it returns false'. Refute it at one input. -/
def barcodeDecodesWrong : ChangeSpec := { name := "barcodeDecodes", fn := fun _ => fun
  | [d1, d2] => { results := [.lit (.bool false)], args := [d1, d2] }
  | _ => none }
def BarcodeDecodesWrongFalsely : Prop := barcodeDecodesRow.holds Try.pinned (OpenSpec.ofChange barcodeDecodesWrong)

/-- 'gatelinelaw19.BarcodeTags': WHATEVER THE INPUT: true; the input reads as it did. -/
def barcodeTagsSpec : ChangeSpec := { name := "barcodeTags", fn := fun _ => fun
  | [d1, d2] => { results := [.lit (.bool true)], args := [d1, d2] }
  | _ => none }
def barcodeTagsRow : OpenClaim := { program := "ytpmfmkkifkpdcaa", sum := "a37efead1c42a96b2045dbb92de9723de42f8cef86f753908d17190f23e26fed", func := "gateline/gatelinelaw19.BarcodeTags", spec := "barcodeTags", unfollowed := true, recurses := true, plainKeys := false, apart := false }
def BarcodeTagsSaid : Prop := barcodeTagsRow.holds Try.pinned (OpenSpec.ofChange barcodeTagsSpec)

/-- ITS FALSE NEIGHBOUR: 'it returns false'. Refute it at one input. -/
def barcodeTagsWrong : ChangeSpec := { name := "barcodeTags", fn := fun _ => fun
  | [d1, d2] => { results := [.lit (.bool false)], args := [d1, d2] }
  | _ => none }
def BarcodeTagsWrongFalsely : Prop := barcodeTagsRow.holds Try.pinned (OpenSpec.ofChange barcodeTagsWrong)

/-- 'gatelinelaw15.StripeTags': WHATEVER THE INPUT: true; the input reads as it did. -/
def stripeTagsSpec : ChangeSpec := { name := "stripeTags", fn := fun _ => fun
  | [d1, d2] => { results := [.lit (.bool true)], args := [d1, d2] }
  | _ => none }
def stripeTagsRow : OpenClaim := { program := "ytpmfmkkifkpdcaa", sum := "a37efead1c42a96b2045dbb92de9723de42f8cef86f753908d17190f23e26fed", func := "gateline/gatelinelaw15.StripeTags", spec := "stripeTags", unfollowed := true, recurses := true, plainKeys := false, apart := false }
def StripeTagsSaid : Prop := stripeTagsRow.holds Try.pinned (OpenSpec.ofChange stripeTagsSpec)

/-- ITS FALSE NEIGHBOUR: 'it returns false'. Refute it at one input. -/
def stripeTagsWrong : ChangeSpec := { name := "stripeTags", fn := fun _ => fun
  | [d1, d2] => { results := [.lit (.bool false)], args := [d1, d2] }
  | _ => none }
def StripeTagsWrongFalsely : Prop := stripeTagsRow.holds Try.pinned (OpenSpec.ofChange stripeTagsWrong)

/- THE SECOND FORM. 'bulk': how many values and letters a reading holds, each counted each time it is reached (what is shared counts as often as it is met; a slice's spare places count too). A statement '..UptoSaid' is the law's where the arguments, and the package variables that the reading takes, are together of bulk at most 1048576: NARROWER than '..Said'. Prove '..Said' where nothing that the law and all that it calls make is longer than what came in: it says more and counts as full. Else prove '..UptoSaid'. A law counts once. -/
mutual
def uptoBulk {H : Type} : DataW H → Nat
  | .lit (.string bytes) => bytes.length + 1
  | .lit _ => 1
  | .nil => 1
  | .ptr d => uptoBulk d + 1
  | .slice elems spare => uptoBulkAll elems + uptoBulkAll spare + 1
  | .agg parts => uptoBulkAll parts + 1
  | .iface _ d => uptoBulk d + 1
  | .map entries => uptoBulkEntries entries + 1
  | .held _ => 1
def uptoBulkAll {H : Type} : List (DataW H) → Nat
  | [] => 0
  | d :: r => uptoBulk d + uptoBulkAll r
def uptoBulkEntries {H : Type} : List (Lit × DataW H) → Nat
  | [] => 0
  | x :: r => uptoBulkEntry x + uptoBulkEntries r
def uptoBulkEntry {H : Type} : Lit × DataW H → Nat
  | (.string bytes, d) => bytes.length + uptoBulk d + 1
  | (_, d) => uptoBulk d + 1
 end
def uptoSmall : (H : Type) → List (DataW H) → Bool := fun _ ds => decide (uptoBulkAll ds ≤ 1048576)
def OpenSpec.upto (s : _root_.Go.ChangeSpec) : _root_.Go.OpenSpec := { _root_.Go.OpenSpec.ofChange s with cond := some uptoSmall }

/-- 'gatelinelaw24.LedgerDoes', WHERE WHAT IT READS IS OF BULK AT MOST 1048576: true; the input reads as it did. -/
def ledgerDoesUptoRow : OpenClaim := { program := "ytpmfmkkifkpdcaa", sum := "a37efead1c42a96b2045dbb92de9723de42f8cef86f753908d17190f23e26fed", func := "gateline/gatelinelaw24.LedgerDoes", spec := "ledgerDoes", unfollowed := true, recurses := true, plainKeys := false, apart := false, narrowed := true }
def LedgerDoesUptoSaid : Prop := ledgerDoesUptoRow.holds Try.pinned (OpenSpec.upto ledgerDoesSpec)

/-- 'gatelinelaw24.LedgerKeeps', WHERE WHAT IT READS IS OF BULK AT MOST 1048576: true; the input reads as it did. -/
def ledgerKeepsUptoRow : OpenClaim := { program := "ytpmfmkkifkpdcaa", sum := "a37efead1c42a96b2045dbb92de9723de42f8cef86f753908d17190f23e26fed", func := "gateline/gatelinelaw24.LedgerKeeps", spec := "ledgerKeeps", unfollowed := true, recurses := true, plainKeys := false, apart := false, narrowed := true }
def LedgerKeepsUptoSaid : Prop := ledgerKeepsUptoRow.holds Try.pinned (OpenSpec.upto ledgerKeepsSpec)

/-- 'gatelinelaw24.LedgerAll', WHERE WHAT IT READS IS OF BULK AT MOST 1048576: true; the input reads as it did. -/
def ledgerAllUptoRow : OpenClaim := { program := "ytpmfmkkifkpdcaa", sum := "a37efead1c42a96b2045dbb92de9723de42f8cef86f753908d17190f23e26fed", func := "gateline/gatelinelaw24.LedgerAll", spec := "ledgerAll", unfollowed := true, recurses := true, plainKeys := false, apart := false, narrowed := true }
def LedgerAllUptoSaid : Prop := ledgerAllUptoRow.holds Try.pinned (OpenSpec.upto ledgerAllSpec)

/-- 'gatelinelaw24.LedgerOrder', WHERE WHAT IT READS IS OF BULK AT MOST 1048576: true; the input reads as it did. -/
def ledgerOrderUptoRow : OpenClaim := { program := "ytpmfmkkifkpdcaa", sum := "a37efead1c42a96b2045dbb92de9723de42f8cef86f753908d17190f23e26fed", func := "gateline/gatelinelaw24.LedgerOrder", spec := "ledgerOrder", unfollowed := true, recurses := true, plainKeys := false, apart := false, narrowed := true }
def LedgerOrderUptoSaid : Prop := ledgerOrderUptoRow.holds Try.pinned (OpenSpec.upto ledgerOrderSpec)

/-- 'gatelinelaw19.BarcodeEncodes', WHERE WHAT IT READS IS OF BULK AT MOST 1048576: true; the input reads as it did. -/
def barcodeEncodesUptoRow : OpenClaim := { program := "ytpmfmkkifkpdcaa", sum := "a37efead1c42a96b2045dbb92de9723de42f8cef86f753908d17190f23e26fed", func := "gateline/gatelinelaw19.BarcodeEncodes", spec := "barcodeEncodes", unfollowed := true, recurses := true, plainKeys := false, apart := false, narrowed := true }
def BarcodeEncodesUptoSaid : Prop := barcodeEncodesUptoRow.holds Try.pinned (OpenSpec.upto barcodeEncodesSpec)

/-- 'gatelinelaw19.BarcodeDecodes', WHERE WHAT IT READS IS OF BULK AT MOST 1048576: true; the input reads as it did. -/
def barcodeDecodesUptoRow : OpenClaim := { program := "ytpmfmkkifkpdcaa", sum := "a37efead1c42a96b2045dbb92de9723de42f8cef86f753908d17190f23e26fed", func := "gateline/gatelinelaw19.BarcodeDecodes", spec := "barcodeDecodes", unfollowed := true, recurses := true, plainKeys := false, apart := false, narrowed := true }
def BarcodeDecodesUptoSaid : Prop := barcodeDecodesUptoRow.holds Try.pinned (OpenSpec.upto barcodeDecodesSpec)

/-- 'gatelinelaw19.BarcodeTags', WHERE WHAT IT READS IS OF BULK AT MOST 1048576: true; the input reads as it did. -/
def barcodeTagsUptoRow : OpenClaim := { program := "ytpmfmkkifkpdcaa", sum := "a37efead1c42a96b2045dbb92de9723de42f8cef86f753908d17190f23e26fed", func := "gateline/gatelinelaw19.BarcodeTags", spec := "barcodeTags", unfollowed := true, recurses := true, plainKeys := false, apart := false, narrowed := true }
def BarcodeTagsUptoSaid : Prop := barcodeTagsUptoRow.holds Try.pinned (OpenSpec.upto barcodeTagsSpec)

/-- 'gatelinelaw15.StripeTags', WHERE WHAT IT READS IS OF BULK AT MOST 1048576: true; the input reads as it did. -/
def stripeTagsUptoRow : OpenClaim := { program := "ytpmfmkkifkpdcaa", sum := "a37efead1c42a96b2045dbb92de9723de42f8cef86f753908d17190f23e26fed", func := "gateline/gatelinelaw15.StripeTags", spec := "stripeTags", unfollowed := true, recurses := true, plainKeys := false, apart := false, narrowed := true }
def StripeTagsUptoSaid : Prop := stripeTagsUptoRow.holds Try.pinned (OpenSpec.upto stripeTagsSpec)

end Rows
end Go.Proofs.Ytpmfmkkifkpdcaa
