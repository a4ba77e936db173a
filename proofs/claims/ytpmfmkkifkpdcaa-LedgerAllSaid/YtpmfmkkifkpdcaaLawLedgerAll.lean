/- The law LedgerAll, as a row: whatever the room and the entries, the call returns true, and its arguments read as before. No condition. -/
import Derived.Test.YtpmfmkkifkpdcaaRows
import Derived.Test.YtpmfmkkifkpdcaaLedAllLaw
import Derived.Test.YtpmfmkkifkpdcaaLedKept
import Derived.Test.YtpmfmkkifkpdcaaEntsOpen
namespace Go.Proofs.Ytpmfmkkifkpdcaa
open Go.RowKit
theorem ledgerAll_any (room : Int) (A : Option Addr) (c : Nat) (l : List En) (w : World) (hr : RdE w A l) :
    Calls Try.prog 5 #[.int .i64 room, .slice A l.length c] w fun r w' => r = .returned (.bool true) ∧ Below w.heap.size w w' := by
  by_cases h1 : (room < 1 ∨ 64 < room) ∨ 200 < l.length
  · exact ledgerAll_no room A c l.length w kept_any h1
  · exact ledgerAll_yes room A c l w kept_any hr (by omega) (by omega) (by omega)
end Go.Proofs.Ytpmfmkkifkpdcaa
namespace Go.Proofs.Ytpmfmkkifkpdcaa.ledgerAll
open Go.ChangeShapes Go.WideShapes Go.ChangeAt Go.RowKit
open Go.ChangeMaps (open_string shut_string)
set_option linter.unusedVariables false
set_option maxRecDepth 100000
theorem own : ownKnob Try.prog.godebug = none := by kernel_rfl
theorem laidOut : laidOutB Try.prog = true := by kernel_rfl
set_option maxRecDepth 100000 in
theorem lifted (os : Os) (started : os.Started) (H : Type) (enc : TypeId × Value → H) :
    ReturnsInHanded {} Try.checked os 5 .any (Rows.ledgerAllSpec.pre6 enc Try.prog Try.f5 Rows.ledgerAllRow.domain false) (Rows.ledgerAllSpec.post enc Try.prog Try.f5 false true false false) := by
  refine returnsInHanded_of_change_sized (C := Try.checked) own started (by kernel_rfl) Try.func5
    (ChangeSpec.witness6 (enc := enc) (C := Try.checked) false ⟨#[], #[.int .i64 0, .slice none 0 0], []⟩ 8 (by kernel_rfl) (by kernel_rfl) (by kernel_rfl) (by kernel_rfl)) ?_
  intro W base args ds gs before hval0 hW hcnd hsz0 _
  have hsz : (DataW.weightsEach Try.prog (Try.f5.params.toList ++ Rows.ledgerAllSpec.plain.varTypes Try.prog) (ds ++ gs)).all (· ≤ reachBytes) = true := hsz0
  have hval : ∀ (j : Nat) t v, Try.f5.params[j]? = some t → args[j]? = some v → Value.okWide Try.prog W .any base t v := hval0
  have hW' := hW
  obtain ⟨p, q, hA0, hV, rfl, hfz, hnd⟩ := hW
  have hA : DataW.TrodAll enc Try.prog W 0 (fun _ => true) true Try.f5.params.toList args.toList ds p := hA0
  rw [Try.params5] at hA hval hsz
  obtain ⟨v0, vs0, d0, ds0, p0, q0, hargs, rfl, rfl, h0, r0⟩ := trodAll_cons hA
  obtain ⟨v1, vs1, d1, ds1, p1, q1, rfl, rfl, rfl, h1, r1⟩ := trodAll_cons r0
  obtain ⟨rfl, rfl, rfl⟩ := trodAll_nil r1
  obtain rfl : args = #[v0, v1] := by cases args; simp_all
  obtain ⟨rfl, rfl⟩ := trodVars_none hV
  obtain ⟨a0, rfl, rfl, rfl, w0⟩ := open_int Try.underlying3 (hval 0 3 v0 rfl rfl) h0
  obtain ⟨A1, len1, cap1, rfl⟩ := okWide_slice Try.underlying22 (hval 1 22 v1 rfl rfl)
  have k1 := h1
  have lt1 : ∀ x ∈ p1, x.block < W.heap.size := by obtain ⟨m, hm⟩ := k1; exact DataW.trod_lt m _ _ _ hm
  obtain ⟨S1, rfl, hr1, hl1, hw1⟩ : ∃ S : List En, len1 = S.length ∧ RdE W A1 S ∧ S.length ≤ 9223372036854775807 ∧ ∀ e ∈ S, (Lit.int .i64 e.a0).wf = true := by
    obtain ⟨fuel, hf⟩ := h1
    exact ents_open hf
  clear hA0 hval0 hsz0 hsz
  refine (ledgerAll_any a0 A1 cap1 S1 W hr1).mono fun e W' ⟨he, bel⟩ => ?_
  subst he
  exact ⟨_, rfl, _, _, _, [], _, [], hW', trodAll_mk1 (shut_bool Try.underlying4 _), (trodAll_cons_mk (shut_int Try.underlying3 w0) (trodAll_cons_mk (Below.trod laidOut (by kernel_rfl) (of_decide_eq_true (by kernel_rfl)) k1 bel lt1) trodAll_mk0)), rfl, bel.frame _, fun h => by cases h⟩
theorem over : Rows.ledgerAllRow.holds Try.pinned (OpenSpec.ofChange Rows.ledgerAllSpec) :=
  OpenClaim.holds_of_wide 5 Try.f5 rfl rfl rfl rfl rfl rfl rfl ⟨rfl, rfl, rfl, rfl, rfl⟩ rfl rfl rfl rfl rfl (by kernel_rfl) Try.func5 (by kernel_rfl)
    (of_decide_eq_true (by kernel_rfl)) (by unfold Func.isWrapper; first | (rw [if_pos (by decide +kernel)]; kernel_rfl) | (rw [if_neg (by decide +kernel)]; exact ⟨rfl, rfl⟩))
    (fun os started H enc _ => lifted os started H enc)
theorem proved : Rows.LedgerAllSaid := over
#print axioms proved
end Go.Proofs.Ytpmfmkkifkpdcaa.ledgerAll
namespace Go.Proofs.Ytpmfmkkifkpdcaa
theorem ledgerAll_holds : Rows.LedgerAllSaid := ledgerAll.proved
end Go.Proofs.Ytpmfmkkifkpdcaa

