/-
  No cell of these rows narrows 'for every input' (looked for: loops, veiled, ifaces, maps, wideKeys, modest, calm, conditions, laid).
  DERIVED. THE GIVEN ROWS OF THIS SEAT. 9 by the template 'for every input the law returns true; each argument reads behind the call as it read before'; 0 by the template 'total and deterministic' (their statements: YtnbghgenaolfgaaGreatTotals.lean).
  GIVEN WITH THE SEED: the statements are not yours to turn. If you find one false, say at which input.
  Laid BY PROGRAM, IN A SANDBOX (cutbox-rows.mjs): the forced cells as the released guide's own fill.sh prints them over the translation b2738bed468a761b… (all of the seat's roots in one cut). By AI agents, Wed Nov 11 2026. No macro, syntax, notation, axiom, sorry.
-/
import Derived.Test.YtnbghgenaolfgaaGreatChecked
import GoSem.Claim
import GoSem.ClaimJoined
import GoSem.ClaimMapViews
import Derived.JoinedTies
import Derived.KernelRfl
namespace Go.Proofs.YtnbghgenaolfgaaGreat
/- THE CELL 'sum', in the pinned program and in every row, IS THE sha256 OF THE DUMP (.gsa) THAT YtnbghgenaolfgaaGreatProg.lean LOADS. Nothing in Lean hashes anything: it is a label: what it is worth is what the hold of that sum in a sandbox is worth. -/
noncomputable def Tryz.pinned : Pinned := { name := "ytnbghgenaolfgaagreat", sum := "b2738bed468a761bd5eaa53b16d2ba59025a9c11ee5cfcf8199de3dfbc8b8ca4", checked := Tryz.checked }
namespace Rows
def none {H : Type} : Left H := { results := [], args := [] }

/-- 'gatelinelaw15.StripeEncodes': WHATEVER THE INPUT: true; the input reads as it did. -/
def stripeEncodesSpec : ChangeSpec := { name := "stripeEncodes", fn := fun _ => fun
  | [d1, d2] => { results := [.lit (.bool true)], args := [d1, d2] }
  | _ => none }
def stripeEncodesRow : OpenClaim := { program := "ytnbghgenaolfgaagreat", sum := "b2738bed468a761bd5eaa53b16d2ba59025a9c11ee5cfcf8199de3dfbc8b8ca4", func := "gateline/gatelinelaw15.StripeEncodes", spec := "stripeEncodes", unfollowed := true, recurses := true, plainKeys := false, apart := false }
def StripeEncodesSaid : Prop := stripeEncodesRow.holds Tryz.pinned (OpenSpec.ofChange stripeEncodesSpec)

/-- ITS FALSE NEIGHBOUR: 'it returns false'. Refute it at one input. -/
def stripeEncodesWrong : ChangeSpec := { name := "stripeEncodes", fn := fun _ => fun
  | [d1, d2] => { results := [.lit (.bool false)], args := [d1, d2] }
  | _ => none }
def StripeEncodesWrongFalsely : Prop := stripeEncodesRow.holds Tryz.pinned (OpenSpec.ofChange stripeEncodesWrong)

/-- 'gatelinelaw15.StripeDecodes': WHATEVER THE INPUT: true; the input reads as it did. -/
def stripeDecodesSpec : ChangeSpec := { name := "stripeDecodes", fn := fun _ => fun
  | [d1, d2] => { results := [.lit (.bool true)], args := [d1, d2] }
  | _ => none }
def stripeDecodesRow : OpenClaim := { program := "ytnbghgenaolfgaagreat", sum := "b2738bed468a761bd5eaa53b16d2ba59025a9c11ee5cfcf8199de3dfbc8b8ca4", func := "gateline/gatelinelaw15.StripeDecodes", spec := "stripeDecodes", unfollowed := true, recurses := true, plainKeys := false, apart := false }
def StripeDecodesSaid : Prop := stripeDecodesRow.holds Tryz.pinned (OpenSpec.ofChange stripeDecodesSpec)

/-- ITS FALSE NEIGHBOUR: 'it returns false'. Refute it at one input. -/
def stripeDecodesWrong : ChangeSpec := { name := "stripeDecodes", fn := fun _ => fun
  | [d1, d2] => { results := [.lit (.bool false)], args := [d1, d2] }
  | _ => none }
def StripeDecodesWrongFalsely : Prop := stripeDecodesRow.holds Tryz.pinned (OpenSpec.ofChange stripeDecodesWrong)

/-- 'gatelinelaw27.NewgateRead': WHATEVER THE INPUT: true; the input reads as it did. -/
def newgateReadSpec : ChangeSpec := { name := "newgateRead", fn := fun _ => fun
  | [d1, d2, d3] => { results := [.lit (.bool true)], args := [d1, d2, d3] }
  | _ => none }
def newgateReadRow : OpenClaim := { program := "ytnbghgenaolfgaagreat", sum := "b2738bed468a761bd5eaa53b16d2ba59025a9c11ee5cfcf8199de3dfbc8b8ca4", func := "gateline/gatelinelaw27.NewgateRead", spec := "newgateRead", unfollowed := true, recurses := true, plainKeys := false, apart := false }
def NewgateReadSaid : Prop := newgateReadRow.holds Tryz.pinned (OpenSpec.ofChange newgateReadSpec)

/-- ITS FALSE NEIGHBOUR: 'it returns false'. Refute it at one input. -/
def newgateReadWrong : ChangeSpec := { name := "newgateRead", fn := fun _ => fun
  | [d1, d2, d3] => { results := [.lit (.bool false)], args := [d1, d2, d3] }
  | _ => none }
def NewgateReadWrongFalsely : Prop := newgateReadRow.holds Tryz.pinned (OpenSpec.ofChange newgateReadWrong)

/-- 'gatelinelaw26.OldgateRead': WHATEVER THE INPUT: true; the input reads as it did. -/
def oldgateReadSpec : ChangeSpec := { name := "oldgateRead", fn := fun _ => fun
  | [d1, d2] => { results := [.lit (.bool true)], args := [d1, d2] }
  | _ => none }
def oldgateReadRow : OpenClaim := { program := "ytnbghgenaolfgaagreat", sum := "b2738bed468a761bd5eaa53b16d2ba59025a9c11ee5cfcf8199de3dfbc8b8ca4", func := "gateline/gatelinelaw26.OldgateRead", spec := "oldgateRead", unfollowed := true, recurses := true, plainKeys := false, apart := false }
def OldgateReadSaid : Prop := oldgateReadRow.holds Tryz.pinned (OpenSpec.ofChange oldgateReadSpec)

/-- ITS FALSE NEIGHBOUR: 'it returns false'. Refute it at one input. -/
def oldgateReadWrong : ChangeSpec := { name := "oldgateRead", fn := fun _ => fun
  | [d1, d2] => { results := [.lit (.bool false)], args := [d1, d2] }
  | _ => none }
def OldgateReadWrongFalsely : Prop := oldgateReadRow.holds Tryz.pinned (OpenSpec.ofChange oldgateReadWrong)

/-- 'gatelinelaw21.AcrossBarcode': WHATEVER THE INPUT: true; the input reads as it did. -/
def acrossBarcodeSpec : ChangeSpec := { name := "acrossBarcode", fn := fun _ => fun
  | [d1, d2, d3, d4] => { results := [.lit (.bool true)], args := [d1, d2, d3, d4] }
  | _ => none }
def acrossBarcodeRow : OpenClaim := { program := "ytnbghgenaolfgaagreat", sum := "b2738bed468a761bd5eaa53b16d2ba59025a9c11ee5cfcf8199de3dfbc8b8ca4", func := "gateline/gatelinelaw21.AcrossBarcode", spec := "acrossBarcode", unfollowed := true, recurses := true, plainKeys := false, apart := false }
def AcrossBarcodeSaid : Prop := acrossBarcodeRow.holds Tryz.pinned (OpenSpec.ofChange acrossBarcodeSpec)

/-- ITS FALSE NEIGHBOUR: 'it returns false'. Refute it at one input. -/
def acrossBarcodeWrong : ChangeSpec := { name := "acrossBarcode", fn := fun _ => fun
  | [d1, d2, d3, d4] => { results := [.lit (.bool false)], args := [d1, d2, d3, d4] }
  | _ => none }
def AcrossBarcodeWrongFalsely : Prop := acrossBarcodeRow.holds Tryz.pinned (OpenSpec.ofChange acrossBarcodeWrong)

/-- 'gatelinelaw21.AcrossStripe': WHATEVER THE INPUT: true; the input reads as it did. -/
def acrossStripeSpec : ChangeSpec := { name := "acrossStripe", fn := fun _ => fun
  | [d1, d2, d3, d4] => { results := [.lit (.bool true)], args := [d1, d2, d3, d4] }
  | _ => none }
def acrossStripeRow : OpenClaim := { program := "ytnbghgenaolfgaagreat", sum := "b2738bed468a761bd5eaa53b16d2ba59025a9c11ee5cfcf8199de3dfbc8b8ca4", func := "gateline/gatelinelaw21.AcrossStripe", spec := "acrossStripe", unfollowed := true, recurses := true, plainKeys := false, apart := false }
def AcrossStripeSaid : Prop := acrossStripeRow.holds Tryz.pinned (OpenSpec.ofChange acrossStripeSpec)

/-- ITS FALSE NEIGHBOUR: 'it returns false'. Refute it at one input. -/
def acrossStripeWrong : ChangeSpec := { name := "acrossStripe", fn := fun _ => fun
  | [d1, d2, d3, d4] => { results := [.lit (.bool false)], args := [d1, d2, d3, d4] }
  | _ => none }
def AcrossStripeWrongFalsely : Prop := acrossStripeRow.holds Tryz.pinned (OpenSpec.ofChange acrossStripeWrong)

/-- 'gatelinelaw21.AcrossBack': WHATEVER THE INPUT: true; the input reads as it did. -/
def acrossBackSpec : ChangeSpec := { name := "acrossBack", fn := fun _ => fun
  | [d1, d2, d3, d4] => { results := [.lit (.bool true)], args := [d1, d2, d3, d4] }
  | _ => none }
def acrossBackRow : OpenClaim := { program := "ytnbghgenaolfgaagreat", sum := "b2738bed468a761bd5eaa53b16d2ba59025a9c11ee5cfcf8199de3dfbc8b8ca4", func := "gateline/gatelinelaw21.AcrossBack", spec := "acrossBack", unfollowed := true, recurses := true, plainKeys := false, apart := false }
def AcrossBackSaid : Prop := acrossBackRow.holds Tryz.pinned (OpenSpec.ofChange acrossBackSpec)

/-- ITS FALSE NEIGHBOUR: 'it returns false'. Refute it at one input. -/
def acrossBackWrong : ChangeSpec := { name := "acrossBack", fn := fun _ => fun
  | [d1, d2, d3, d4] => { results := [.lit (.bool false)], args := [d1, d2, d3, d4] }
  | _ => none }
def AcrossBackWrongFalsely : Prop := acrossBackRow.holds Tryz.pinned (OpenSpec.ofChange acrossBackWrong)

/-- 'gatelinelaw21.AcrossForth': WHATEVER THE INPUT: true; the input reads as it did. -/
def acrossForthSpec : ChangeSpec := { name := "acrossForth", fn := fun _ => fun
  | [d1, d2, d3, d4] => { results := [.lit (.bool true)], args := [d1, d2, d3, d4] }
  | _ => none }
def acrossForthRow : OpenClaim := { program := "ytnbghgenaolfgaagreat", sum := "b2738bed468a761bd5eaa53b16d2ba59025a9c11ee5cfcf8199de3dfbc8b8ca4", func := "gateline/gatelinelaw21.AcrossForth", spec := "acrossForth", unfollowed := true, recurses := true, plainKeys := false, apart := false }
def AcrossForthSaid : Prop := acrossForthRow.holds Tryz.pinned (OpenSpec.ofChange acrossForthSpec)

/-- ITS FALSE NEIGHBOUR: 'it returns false'. Refute it at one input. -/
def acrossForthWrong : ChangeSpec := { name := "acrossForth", fn := fun _ => fun
  | [d1, d2, d3, d4] => { results := [.lit (.bool false)], args := [d1, d2, d3, d4] }
  | _ => none }
def AcrossForthWrongFalsely : Prop := acrossForthRow.holds Tryz.pinned (OpenSpec.ofChange acrossForthWrong)

/-- 'gatelinelaw21.AcrossFits': WHATEVER THE INPUT: true; the input reads as it did. -/
def acrossFitsSpec : ChangeSpec := { name := "acrossFits", fn := fun _ => fun
  | [d1, d2, d3, d4] => { results := [.lit (.bool true)], args := [d1, d2, d3, d4] }
  | _ => none }
def acrossFitsRow : OpenClaim := { program := "ytnbghgenaolfgaagreat", sum := "b2738bed468a761bd5eaa53b16d2ba59025a9c11ee5cfcf8199de3dfbc8b8ca4", func := "gateline/gatelinelaw21.AcrossFits", spec := "acrossFits", unfollowed := true, recurses := true, plainKeys := false, apart := false }
def AcrossFitsSaid : Prop := acrossFitsRow.holds Tryz.pinned (OpenSpec.ofChange acrossFitsSpec)

/-- ITS FALSE NEIGHBOUR: 'it returns false'. Refute it at one input. -/
def acrossFitsWrong : ChangeSpec := { name := "acrossFits", fn := fun _ => fun
  | [d1, d2, d3, d4] => { results := [.lit (.bool false)], args := [d1, d2, d3, d4] }
  | _ => none }
def AcrossFitsWrongFalsely : Prop := acrossFitsRow.holds Tryz.pinned (OpenSpec.ofChange acrossFitsWrong)

/- THE SECOND FORM. 'bulk': how many values and letters a reading holds, each counted each time it is reached (what is shared counts as often as it is met; a slice's spare places count too). A statement '..UptoSaid' is the law's where the arguments, and the package variables that the reading takes, are together of bulk at most 1048576: NARROWER than '..Said'. Prove '..Said' where nothing that the law and all that it calls make is longer than what came in: it says more and counts as full. Else prove '..UptoSaid'. A law counts once. -/
mutual
def uptoBulk {H : Type} : DataW H → Nat
  | .lit (.string bytes) => bytes.length + 1
  | .lit _ => 1
  | .nil => 1
  | .ptr d => uptoBulk d + 1
  | .slice elems spare => uptoBulkAll elems + uptoBulkAll spare + 1
  | .agg parts => uptoBulkAll parts + 1
  | .iface _ d => uptoBulk d + 1
  | .map entries => uptoBulkEntries entries + 1
  | .held _ => 1
def uptoBulkAll {H : Type} : List (DataW H) → Nat
  | [] => 0
  | d :: r => uptoBulk d + uptoBulkAll r
def uptoBulkEntries {H : Type} : List (Lit × DataW H) → Nat
  | [] => 0
  | x :: r => uptoBulkEntry x + uptoBulkEntries r
def uptoBulkEntry {H : Type} : Lit × DataW H → Nat
  | (.string bytes, d) => bytes.length + uptoBulk d + 1
  | (_, d) => uptoBulk d + 1
 end
def uptoSmall : (H : Type) → List (DataW H) → Bool := fun _ ds => decide (uptoBulkAll ds ≤ 1048576)
def OpenSpec.upto (s : _root_.Go.ChangeSpec) : _root_.Go.OpenSpec := { _root_.Go.OpenSpec.ofChange s with cond := some uptoSmall }

/-- 'gatelinelaw15.StripeEncodes', WHERE WHAT IT READS IS OF BULK AT MOST 1048576: true; the input reads as it did. -/
def stripeEncodesUptoRow : OpenClaim := { program := "ytnbghgenaolfgaagreat", sum := "b2738bed468a761bd5eaa53b16d2ba59025a9c11ee5cfcf8199de3dfbc8b8ca4", func := "gateline/gatelinelaw15.StripeEncodes", spec := "stripeEncodes", unfollowed := true, recurses := true, plainKeys := false, apart := false, narrowed := true }
def StripeEncodesUptoSaid : Prop := stripeEncodesUptoRow.holds Tryz.pinned (OpenSpec.upto stripeEncodesSpec)

/-- 'gatelinelaw15.StripeDecodes', WHERE WHAT IT READS IS OF BULK AT MOST 1048576: true; the input reads as it did. -/
def stripeDecodesUptoRow : OpenClaim := { program := "ytnbghgenaolfgaagreat", sum := "b2738bed468a761bd5eaa53b16d2ba59025a9c11ee5cfcf8199de3dfbc8b8ca4", func := "gateline/gatelinelaw15.StripeDecodes", spec := "stripeDecodes", unfollowed := true, recurses := true, plainKeys := false, apart := false, narrowed := true }
def StripeDecodesUptoSaid : Prop := stripeDecodesUptoRow.holds Tryz.pinned (OpenSpec.upto stripeDecodesSpec)

/-- 'gatelinelaw27.NewgateRead', WHERE WHAT IT READS IS OF BULK AT MOST 1048576: true; the input reads as it did. -/
def newgateReadUptoRow : OpenClaim := { program := "ytnbghgenaolfgaagreat", sum := "b2738bed468a761bd5eaa53b16d2ba59025a9c11ee5cfcf8199de3dfbc8b8ca4", func := "gateline/gatelinelaw27.NewgateRead", spec := "newgateRead", unfollowed := true, recurses := true, plainKeys := false, apart := false, narrowed := true }
def NewgateReadUptoSaid : Prop := newgateReadUptoRow.holds Tryz.pinned (OpenSpec.upto newgateReadSpec)

/-- 'gatelinelaw26.OldgateRead', WHERE WHAT IT READS IS OF BULK AT MOST 1048576: true; the input reads as it did. -/
def oldgateReadUptoRow : OpenClaim := { program := "ytnbghgenaolfgaagreat", sum := "b2738bed468a761bd5eaa53b16d2ba59025a9c11ee5cfcf8199de3dfbc8b8ca4", func := "gateline/gatelinelaw26.OldgateRead", spec := "oldgateRead", unfollowed := true, recurses := true, plainKeys := false, apart := false, narrowed := true }
def OldgateReadUptoSaid : Prop := oldgateReadUptoRow.holds Tryz.pinned (OpenSpec.upto oldgateReadSpec)

/-- 'gatelinelaw21.AcrossBarcode', WHERE WHAT IT READS IS OF BULK AT MOST 1048576: true; the input reads as it did. -/
def acrossBarcodeUptoRow : OpenClaim := { program := "ytnbghgenaolfgaagreat", sum := "b2738bed468a761bd5eaa53b16d2ba59025a9c11ee5cfcf8199de3dfbc8b8ca4", func := "gateline/gatelinelaw21.AcrossBarcode", spec := "acrossBarcode", unfollowed := true, recurses := true, plainKeys := false, apart := false, narrowed := true }
def AcrossBarcodeUptoSaid : Prop := acrossBarcodeUptoRow.holds Tryz.pinned (OpenSpec.upto acrossBarcodeSpec)

/-- 'gatelinelaw21.AcrossStripe', WHERE WHAT IT READS IS OF BULK AT MOST 1048576: true; the input reads as it did. -/
def acrossStripeUptoRow : OpenClaim := { program := "ytnbghgenaolfgaagreat", sum := "b2738bed468a761bd5eaa53b16d2ba59025a9c11ee5cfcf8199de3dfbc8b8ca4", func := "gateline/gatelinelaw21.AcrossStripe", spec := "acrossStripe", unfollowed := true, recurses := true, plainKeys := false, apart := false, narrowed := true }
def AcrossStripeUptoSaid : Prop := acrossStripeUptoRow.holds Tryz.pinned (OpenSpec.upto acrossStripeSpec)

/-- 'gatelinelaw21.AcrossBack', WHERE WHAT IT READS IS OF BULK AT MOST 1048576: true; the input reads as it did. -/
def acrossBackUptoRow : OpenClaim := { program := "ytnbghgenaolfgaagreat", sum := "b2738bed468a761bd5eaa53b16d2ba59025a9c11ee5cfcf8199de3dfbc8b8ca4", func := "gateline/gatelinelaw21.AcrossBack", spec := "acrossBack", unfollowed := true, recurses := true, plainKeys := false, apart := false, narrowed := true }
def AcrossBackUptoSaid : Prop := acrossBackUptoRow.holds Tryz.pinned (OpenSpec.upto acrossBackSpec)

/-- 'gatelinelaw21.AcrossForth', WHERE WHAT IT READS IS OF BULK AT MOST 1048576: true; the input reads as it did. -/
def acrossForthUptoRow : OpenClaim := { program := "ytnbghgenaolfgaagreat", sum := "b2738bed468a761bd5eaa53b16d2ba59025a9c11ee5cfcf8199de3dfbc8b8ca4", func := "gateline/gatelinelaw21.AcrossForth", spec := "acrossForth", unfollowed := true, recurses := true, plainKeys := false, apart := false, narrowed := true }
def AcrossForthUptoSaid : Prop := acrossForthUptoRow.holds Tryz.pinned (OpenSpec.upto acrossForthSpec)

/-- 'gatelinelaw21.AcrossFits', WHERE WHAT IT READS IS OF BULK AT MOST 1048576: true; the input reads as it did. -/
def acrossFitsUptoRow : OpenClaim := { program := "ytnbghgenaolfgaagreat", sum := "b2738bed468a761bd5eaa53b16d2ba59025a9c11ee5cfcf8199de3dfbc8b8ca4", func := "gateline/gatelinelaw21.AcrossFits", spec := "acrossFits", unfollowed := true, recurses := true, plainKeys := false, apart := false, narrowed := true }
def AcrossFitsUptoSaid : Prop := acrossFitsUptoRow.holds Tryz.pinned (OpenSpec.upto acrossFitsSpec)

end Rows
end Go.Proofs.YtnbghgenaolfgaaGreat
