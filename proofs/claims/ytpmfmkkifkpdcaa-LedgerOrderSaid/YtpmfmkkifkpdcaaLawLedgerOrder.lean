/- The law LedgerOrder, as a row: whatever the entries, the call returns true, and its arguments read as before. No condition. -/
import Derived.Test.YtpmfmkkifkpdcaaRows
import Derived.Test.YtpmfmkkifkpdcaaLedOrderLaw
import Derived.Test.YtpmfmkkifkpdcaaLedKept
import Derived.Test.YtpmfmkkifkpdcaaEntsOpen
namespace Go.Proofs.Ytpmfmkkifkpdcaa
open Go.RowKit
theorem ledgerOrder_any (A : Option Addr) (c : Nat) (l : List En) (w : World) (hr : RdE w A l) :
    Calls Try.prog 6 #[.slice A l.length c] w fun r w' => r = .returned (.bool true) ∧ Below w.heap.size w w' := by
  by_cases h1 : 60 < l.length
  · exact ledgerOrder_no A c l.length w kept_any h1
  · exact ledgerOrder_yes A c l w kept_any hr (by omega)
end Go.Proofs.Ytpmfmkkifkpdcaa
namespace Go.Proofs.Ytpmfmkkifkpdcaa.ledgerOrder
open Go.ChangeShapes Go.WideShapes Go.ChangeAt Go.RowKit
open Go.ChangeMaps (open_string shut_string)
set_option linter.unusedVariables false
set_option maxRecDepth 100000
theorem own : ownKnob Try.prog.godebug = none := by kernel_rfl
theorem laidOut : laidOutB Try.prog = true := by kernel_rfl
set_option maxRecDepth 100000 in
theorem lifted (os : Os) (started : os.Started) (H : Type) (enc : TypeId × Value → H) :
    ReturnsInHanded {} Try.checked os 6 .any (Rows.ledgerOrderSpec.pre6 enc Try.prog Try.f6 Rows.ledgerOrderRow.domain false) (Rows.ledgerOrderSpec.post enc Try.prog Try.f6 false true false false) := by
  refine returnsInHanded_of_change_sized (C := Try.checked) own started (by kernel_rfl) Try.func6
    (ChangeSpec.witness6 (enc := enc) (C := Try.checked) false ⟨#[], #[.slice none 0 0], []⟩ 8 (by kernel_rfl) (by kernel_rfl) (by kernel_rfl) (by kernel_rfl)) ?_
  intro W base args ds gs before hval0 hW hcnd hsz0 _
  have hsz : (DataW.weightsEach Try.prog (Try.f6.params.toList ++ Rows.ledgerOrderSpec.plain.varTypes Try.prog) (ds ++ gs)).all (· ≤ reachBytes) = true := hsz0
  have hval : ∀ (j : Nat) t v, Try.f6.params[j]? = some t → args[j]? = some v → Value.okWide Try.prog W .any base t v := hval0
  have hW' := hW
  obtain ⟨p, q, hA0, hV, rfl, hfz, hnd⟩ := hW
  have hA : DataW.TrodAll enc Try.prog W 0 (fun _ => true) true Try.f6.params.toList args.toList ds p := hA0
  rw [Try.params6] at hA hval hsz
  obtain ⟨v0, vs0, d0, ds0, p0, q0, hargs, rfl, rfl, h0, r0⟩ := trodAll_cons hA
  obtain ⟨rfl, rfl, rfl⟩ := trodAll_nil r0
  obtain rfl : args = #[v0] := by cases args; simp_all
  obtain ⟨rfl, rfl⟩ := trodVars_none hV
  obtain ⟨A0, len0, cap0, rfl⟩ := okWide_slice Try.underlying22 (hval 0 22 v0 rfl rfl)
  have k0 := h0
  have lt0 : ∀ x ∈ p0, x.block < W.heap.size := by obtain ⟨m, hm⟩ := k0; exact DataW.trod_lt m _ _ _ hm
  obtain ⟨S0, rfl, hr0, hl0, hw0⟩ : ∃ S : List En, len0 = S.length ∧ RdE W A0 S ∧ S.length ≤ 9223372036854775807 ∧ ∀ e ∈ S, (Lit.int .i64 e.a0).wf = true := by
    obtain ⟨fuel, hf⟩ := h0
    exact ents_open hf
  clear hA0 hval0 hsz0 hsz
  refine (ledgerOrder_any A0 cap0 S0 W hr0).mono fun e W' ⟨he, bel⟩ => ?_
  subst he
  exact ⟨_, rfl, _, _, _, [], _, [], hW', trodAll_mk1 (shut_bool Try.underlying4 _), (trodAll_cons_mk (Below.trod laidOut (by kernel_rfl) (of_decide_eq_true (by kernel_rfl)) k0 bel lt0) trodAll_mk0), rfl, bel.frame _, fun h => by cases h⟩
theorem over : Rows.ledgerOrderRow.holds Try.pinned (OpenSpec.ofChange Rows.ledgerOrderSpec) :=
  OpenClaim.holds_of_wide 6 Try.f6 rfl rfl rfl rfl rfl rfl rfl ⟨rfl, rfl, rfl, rfl, rfl⟩ rfl rfl rfl rfl rfl (by kernel_rfl) Try.func6 (by kernel_rfl)
    (of_decide_eq_true (by kernel_rfl)) (by unfold Func.isWrapper; first | (rw [if_pos (by decide +kernel)]; kernel_rfl) | (rw [if_neg (by decide +kernel)]; exact ⟨rfl, rfl⟩))
    (fun os started H enc _ => lifted os started H enc)
theorem proved : Rows.LedgerOrderSaid := over
#print axioms proved
end Go.Proofs.Ytpmfmkkifkpdcaa.ledgerOrder
namespace Go.Proofs.Ytpmfmkkifkpdcaa
theorem ledgerOrder_holds : Rows.LedgerOrderSaid := ledgerOrder.proved
end Go.Proofs.Ytpmfmkkifkpdcaa

