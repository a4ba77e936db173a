/-
  No cell of these rows narrows 'for every input' (looked for: loops, veiled, ifaces, maps, wideKeys, modest, calm, conditions, laid).
  DERIVED. THE GIVEN ROWS OF THIS SEAT. 5 by the template 'for every input the law returns true; each argument reads behind the call as it read before'; 0 by the template 'total and deterministic' (their statements: YtachkhjbckapoaaTotals.lean).
  GIVEN WITH THE SEED: the statements are not yours to turn. If you find one false, say at which input.
  Laid BY PROGRAM, IN A SANDBOX (cutbox-rows.mjs): the forced cells as the released guide's own fill.sh prints them over the translation fe5fd528f5103f8c… (all of the seat's roots in one cut). By AI agents, Wed Nov 11 2026. No macro, syntax, notation, axiom, sorry.
-/
import Derived.Test.YtachkhjbckapoaaChecked
import GoSem.Claim
import GoSem.ClaimJoined
import GoSem.ClaimMapViews
import Derived.JoinedTies
import Derived.KernelRfl
namespace Go.Proofs.Ytachkhjbckapoaa
/- THE CELL 'sum', in the pinned program and in every row, IS THE sha256 OF THE DUMP (.gsa) THAT YtachkhjbckapoaaProg.lean LOADS. Nothing in Lean hashes anything: it is a label: what it is worth is what the hold of that sum in a sandbox is worth. -/
noncomputable def Try.pinned : Pinned := { name := "ytachkhjbckapoaa", sum := "fe5fd528f5103f8c6fd59268f658f8d2bc51289f6b85127b025952b8318e6da8", checked := Try.checked }
namespace Rows
def none {H : Type} : Left H := { results := [], args := [] }

/-- 'gatelinelaw19.BarcodeEncodes': WHATEVER THE INPUT: true; the input reads as it did. -/
def barcodeEncodesSpec : ChangeSpec := { name := "barcodeEncodes", fn := fun _ => fun
  | [d1, d2] => { results := [.lit (.bool true)], args := [d1, d2] }
  | _ => none }
def barcodeEncodesRow : OpenClaim := { program := "ytachkhjbckapoaa", sum := "fe5fd528f5103f8c6fd59268f658f8d2bc51289f6b85127b025952b8318e6da8", func := "gateline/gatelinelaw19.BarcodeEncodes", spec := "barcodeEncodes", unfollowed := true, recurses := true, apart := false }
def BarcodeEncodesSaid : Prop := barcodeEncodesRow.holds Try.pinned (OpenSpec.ofChange barcodeEncodesSpec)

/-- ITS FALSE NEIGHBOUR: 'it returns false'. Refute it at one input. -/
def barcodeEncodesWrong : ChangeSpec := { name := "barcodeEncodes", fn := fun _ => fun
  | [d1, d2] => { results := [.lit (.bool false)], args := [d1, d2] }
  | _ => none }
def BarcodeEncodesWrongFalsely : Prop := barcodeEncodesRow.holds Try.pinned (OpenSpec.ofChange barcodeEncodesWrong)

/-- 'gatelinelaw19.BarcodeDecodes': WHATEVER THE INPUT: true; the input reads as it did. -/
def barcodeDecodesSpec : ChangeSpec := { name := "barcodeDecodes", fn := fun _ => fun
  | [d1, d2] => { results := [.lit (.bool true)], args := [d1, d2] }
  | _ => none }
def barcodeDecodesRow : OpenClaim := { program := "ytachkhjbckapoaa", sum := "fe5fd528f5103f8c6fd59268f658f8d2bc51289f6b85127b025952b8318e6da8", func := "gateline/gatelinelaw19.BarcodeDecodes", spec := "barcodeDecodes", unfollowed := true, recurses := true, apart := false }
def BarcodeDecodesSaid : Prop := barcodeDecodesRow.holds Try.pinned (OpenSpec.ofChange barcodeDecodesSpec)

/-- ITS FALSE NEIGHBOUR: 'it returns false'. Refute it at one input. -/
def barcodeDecodesWrong : ChangeSpec := { name := "barcodeDecodes", fn := fun _ => fun
  | [d1, d2] => { results := [.lit (.bool false)], args := [d1, d2] }
  | _ => none }
def BarcodeDecodesWrongFalsely : Prop := barcodeDecodesRow.holds Try.pinned (OpenSpec.ofChange barcodeDecodesWrong)

/-- 'gatelinelaw19.BarcodeTags': WHATEVER THE INPUT: true; the input reads as it did. -/
def barcodeTagsSpec : ChangeSpec := { name := "barcodeTags", fn := fun _ => fun
  | [d1, d2] => { results := [.lit (.bool true)], args := [d1, d2] }
  | _ => none }
def barcodeTagsRow : OpenClaim := { program := "ytachkhjbckapoaa", sum := "fe5fd528f5103f8c6fd59268f658f8d2bc51289f6b85127b025952b8318e6da8", func := "gateline/gatelinelaw19.BarcodeTags", spec := "barcodeTags", unfollowed := true, recurses := true, apart := false }
def BarcodeTagsSaid : Prop := barcodeTagsRow.holds Try.pinned (OpenSpec.ofChange barcodeTagsSpec)

/-- ITS FALSE NEIGHBOUR: 'it returns false'. Refute it at one input. -/
def barcodeTagsWrong : ChangeSpec := { name := "barcodeTags", fn := fun _ => fun
  | [d1, d2] => { results := [.lit (.bool false)], args := [d1, d2] }
  | _ => none }
def BarcodeTagsWrongFalsely : Prop := barcodeTagsRow.holds Try.pinned (OpenSpec.ofChange barcodeTagsWrong)

/-- 'gatelinelaw15.StripeTags': WHATEVER THE INPUT: true; the input reads as it did. -/
def stripeTagsSpec : ChangeSpec := { name := "stripeTags", fn := fun _ => fun
  | [d1, d2] => { results := [.lit (.bool true)], args := [d1, d2] }
  | _ => none }
def stripeTagsRow : OpenClaim := { program := "ytachkhjbckapoaa", sum := "fe5fd528f5103f8c6fd59268f658f8d2bc51289f6b85127b025952b8318e6da8", func := "gateline/gatelinelaw15.StripeTags", spec := "stripeTags", unfollowed := true, recurses := true, apart := false }
def StripeTagsSaid : Prop := stripeTagsRow.holds Try.pinned (OpenSpec.ofChange stripeTagsSpec)

/-- ITS FALSE NEIGHBOUR: 'it returns false'. Refute it at one input. -/
def stripeTagsWrong : ChangeSpec := { name := "stripeTags", fn := fun _ => fun
  | [d1, d2] => { results := [.lit (.bool false)], args := [d1, d2] }
  | _ => none }
def StripeTagsWrongFalsely : Prop := stripeTagsRow.holds Try.pinned (OpenSpec.ofChange stripeTagsWrong)

/-- 'gatelinelaw15.StripeOne': WHATEVER THE INPUT: true; the input reads as it did. -/
def stripeOneSpec : ChangeSpec := { name := "stripeOne", fn := fun _ => fun
  | [d1, d2] => { results := [.lit (.bool true)], args := [d1, d2] }
  | _ => none }
def stripeOneRow : OpenClaim := { program := "ytachkhjbckapoaa", sum := "fe5fd528f5103f8c6fd59268f658f8d2bc51289f6b85127b025952b8318e6da8", func := "gateline/gatelinelaw15.StripeOne", spec := "stripeOne", unfollowed := true, recurses := true, apart := false }
def StripeOneSaid : Prop := stripeOneRow.holds Try.pinned (OpenSpec.ofChange stripeOneSpec)

/-- ITS FALSE NEIGHBOUR: 'it returns false'. Refute it at one input. -/
def stripeOneWrong : ChangeSpec := { name := "stripeOne", fn := fun _ => fun
  | [d1, d2] => { results := [.lit (.bool false)], args := [d1, d2] }
  | _ => none }
def StripeOneWrongFalsely : Prop := stripeOneRow.holds Try.pinned (OpenSpec.ofChange stripeOneWrong)

/- THE SECOND FORM. 'bulk': how many values and letters a reading holds, each counted each time it is reached (what is shared counts as often as it is met; a slice's spare places count too). A statement '..UptoSaid' is the law's where the arguments, and the package variables that the reading takes, are together of bulk at most 1048576: NARROWER than '..Said'. Prove '..Said' where nothing that the law and all that it calls make is longer than what came in: it says more and counts as full. Else prove '..UptoSaid'. A law counts once. -/
mutual
def uptoBulk {H : Type} : DataW H → Nat
  | .lit (.string bytes) => bytes.length + 1
  | .lit _ => 1
  | .nil => 1
  | .ptr d => uptoBulk d + 1
  | .slice elems spare => uptoBulkAll elems + uptoBulkAll spare + 1
  | .agg parts => uptoBulkAll parts + 1
  | .iface _ d => uptoBulk d + 1
  | .map entries => uptoBulkEntries entries + 1
  | .held _ => 1
def uptoBulkAll {H : Type} : List (DataW H) → Nat
  | [] => 0
  | d :: r => uptoBulk d + uptoBulkAll r
def uptoBulkEntries {H : Type} : List (Lit × DataW H) → Nat
  | [] => 0
  | x :: r => uptoBulkEntry x + uptoBulkEntries r
def uptoBulkEntry {H : Type} : Lit × DataW H → Nat
  | (.string bytes, d) => bytes.length + uptoBulk d + 1
  | (_, d) => uptoBulk d + 1
 end
def uptoSmall : (H : Type) → List (DataW H) → Bool := fun _ ds => decide (uptoBulkAll ds ≤ 1048576)
def OpenSpec.upto (s : _root_.Go.ChangeSpec) : _root_.Go.OpenSpec := { _root_.Go.OpenSpec.ofChange s with cond := some uptoSmall }

/-- 'gatelinelaw19.BarcodeEncodes', WHERE WHAT IT READS IS OF BULK AT MOST 1048576: true; the input reads as it did. -/
def barcodeEncodesUptoRow : OpenClaim := { program := "ytachkhjbckapoaa", sum := "fe5fd528f5103f8c6fd59268f658f8d2bc51289f6b85127b025952b8318e6da8", func := "gateline/gatelinelaw19.BarcodeEncodes", spec := "barcodeEncodes", unfollowed := true, recurses := true, apart := false, narrowed := true }
def BarcodeEncodesUptoSaid : Prop := barcodeEncodesUptoRow.holds Try.pinned (OpenSpec.upto barcodeEncodesSpec)

/-- 'gatelinelaw19.BarcodeDecodes', WHERE WHAT IT READS IS OF BULK AT MOST 1048576: true; the input reads as it did. -/
def barcodeDecodesUptoRow : OpenClaim := { program := "ytachkhjbckapoaa", sum := "fe5fd528f5103f8c6fd59268f658f8d2bc51289f6b85127b025952b8318e6da8", func := "gateline/gatelinelaw19.BarcodeDecodes", spec := "barcodeDecodes", unfollowed := true, recurses := true, apart := false, narrowed := true }
def BarcodeDecodesUptoSaid : Prop := barcodeDecodesUptoRow.holds Try.pinned (OpenSpec.upto barcodeDecodesSpec)

/-- 'gatelinelaw19.BarcodeTags', WHERE WHAT IT READS IS OF BULK AT MOST 1048576: true; the input reads as it did. -/
def barcodeTagsUptoRow : OpenClaim := { program := "ytachkhjbckapoaa", sum := "fe5fd528f5103f8c6fd59268f658f8d2bc51289f6b85127b025952b8318e6da8", func := "gateline/gatelinelaw19.BarcodeTags", spec := "barcodeTags", unfollowed := true, recurses := true, apart := false, narrowed := true }
def BarcodeTagsUptoSaid : Prop := barcodeTagsUptoRow.holds Try.pinned (OpenSpec.upto barcodeTagsSpec)

/-- 'gatelinelaw15.StripeTags', WHERE WHAT IT READS IS OF BULK AT MOST 1048576: true; the input reads as it did. -/
def stripeTagsUptoRow : OpenClaim := { program := "ytachkhjbckapoaa", sum := "fe5fd528f5103f8c6fd59268f658f8d2bc51289f6b85127b025952b8318e6da8", func := "gateline/gatelinelaw15.StripeTags", spec := "stripeTags", unfollowed := true, recurses := true, apart := false, narrowed := true }
def StripeTagsUptoSaid : Prop := stripeTagsUptoRow.holds Try.pinned (OpenSpec.upto stripeTagsSpec)

/-- 'gatelinelaw15.StripeOne', WHERE WHAT IT READS IS OF BULK AT MOST 1048576: true; the input reads as it did. -/
def stripeOneUptoRow : OpenClaim := { program := "ytachkhjbckapoaa", sum := "fe5fd528f5103f8c6fd59268f658f8d2bc51289f6b85127b025952b8318e6da8", func := "gateline/gatelinelaw15.StripeOne", spec := "stripeOne", unfollowed := true, recurses := true, apart := false, narrowed := true }
def StripeOneUptoSaid : Prop := stripeOneUptoRow.holds Try.pinned (OpenSpec.upto stripeOneSpec)

end Rows
end Go.Proofs.Ytachkhjbckapoaa
