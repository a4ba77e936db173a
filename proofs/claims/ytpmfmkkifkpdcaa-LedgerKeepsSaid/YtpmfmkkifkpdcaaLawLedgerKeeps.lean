/- The law LedgerKeeps, as a row: whatever the room, the entries and the serial, the call returns true, and its arguments read as before. No condition. -/
import Derived.Test.YtpmfmkkifkpdcaaRows
import Derived.Test.YtpmfmkkifkpdcaaLedKeepsLaw
import Derived.Test.YtpmfmkkifkpdcaaLedKept
import Derived.Test.YtpmfmkkifkpdcaaEntsOpen
namespace Go.Proofs.Ytpmfmkkifkpdcaa
open Go.RowKit
theorem ledgerKeeps_any (room serial : Int) (A : Option Addr) (c : Nat) (l : List En) (w : World) (hr : RdE w A l) (hw : (Lit.int .i64 serial).wf = true) :
    Calls Try.prog 4 #[.int .i64 room, .slice A l.length c, .int .i64 serial] w fun r w' => r = .returned (.bool true) ∧ Below w.heap.size w w' := by
  by_cases h1 : (room < 1 ∨ 64 < room) ∨ 200 < l.length
  · exact ledgerKeeps_no room serial A c l.length w kept_any h1
  · exact ledgerKeeps_yes room serial A c l w kept_any hr (by omega) (by omega) (by omega) hw
end Go.Proofs.Ytpmfmkkifkpdcaa
namespace Go.Proofs.Ytpmfmkkifkpdcaa.ledgerKeeps
open Go.ChangeShapes Go.WideShapes Go.ChangeAt Go.RowKit
open Go.ChangeMaps (open_string shut_string)
set_option linter.unusedVariables false
set_option maxRecDepth 100000
theorem own : ownKnob Try.prog.godebug = none := by kernel_rfl
theorem laidOut : laidOutB Try.prog = true := by kernel_rfl
set_option maxRecDepth 100000 in
theorem lifted (os : Os) (started : os.Started) (H : Type) (enc : TypeId × Value → H) :
    ReturnsInHanded {} Try.checked os 4 .any (Rows.ledgerKeepsSpec.pre6 enc Try.prog Try.f4 Rows.ledgerKeepsRow.domain false) (Rows.ledgerKeepsSpec.post enc Try.prog Try.f4 false true false false) := by
  refine returnsInHanded_of_change_sized (C := Try.checked) own started (by kernel_rfl) Try.func4
    (ChangeSpec.witness6 (enc := enc) (C := Try.checked) false ⟨#[], #[.int .i64 0, .slice none 0 0, .int .i64 0], []⟩ 8 (by kernel_rfl) (by kernel_rfl) (by kernel_rfl) (by kernel_rfl)) ?_
  intro W base args ds gs before hval0 hW hcnd hsz0 _
  have hsz : (DataW.weightsEach Try.prog (Try.f4.params.toList ++ Rows.ledgerKeepsSpec.plain.varTypes Try.prog) (ds ++ gs)).all (· ≤ reachBytes) = true := hsz0
  have hval : ∀ (j : Nat) t v, Try.f4.params[j]? = some t → args[j]? = some v → Value.okWide Try.prog W .any base t v := hval0
  have hW' := hW
  obtain ⟨p, q, hA0, hV, rfl, hfz, hnd⟩ := hW
  have hA : DataW.TrodAll enc Try.prog W 0 (fun _ => true) true Try.f4.params.toList args.toList ds p := hA0
  rw [Try.params4] at hA hval hsz
  obtain ⟨v0, vs0, d0, ds0, p0, q0, hargs, rfl, rfl, h0, r0⟩ := trodAll_cons hA
  obtain ⟨v1, vs1, d1, ds1, p1, q1, rfl, rfl, rfl, h1, r1⟩ := trodAll_cons r0
  obtain ⟨v2, vs2, d2, ds2, p2, q2, rfl, rfl, rfl, h2, r2⟩ := trodAll_cons r1
  obtain ⟨rfl, rfl, rfl⟩ := trodAll_nil r2
  obtain rfl : args = #[v0, v1, v2] := by cases args; simp_all
  obtain ⟨rfl, rfl⟩ := trodVars_none hV
  obtain ⟨a0, rfl, rfl, rfl, w0⟩ := open_int Try.underlying3 (hval 0 3 v0 rfl rfl) h0
  obtain ⟨A1, len1, cap1, rfl⟩ := okWide_slice Try.underlying22 (hval 1 22 v1 rfl rfl)
  have k1 := h1
  have lt1 : ∀ x ∈ p1, x.block < W.heap.size := by obtain ⟨m, hm⟩ := k1; exact DataW.trod_lt m _ _ _ hm
  obtain ⟨S1, rfl, hr1, hl1, hw1⟩ : ∃ S : List En, len1 = S.length ∧ RdE W A1 S ∧ S.length ≤ 9223372036854775807 ∧ ∀ e ∈ S, (Lit.int .i64 e.a0).wf = true := by
    obtain ⟨fuel, hf⟩ := h1
    exact ents_open hf
  obtain ⟨a2, rfl, rfl, rfl, w2⟩ := open_int Try.underlying3 (hval 2 3 v2 rfl rfl) h2
  clear hA0 hval0 hsz0 hsz
  refine (ledgerKeeps_any a0 a2 A1 cap1 S1 W hr1 w2).mono fun e W' ⟨he, bel⟩ => ?_
  subst he
  exact ⟨_, rfl, _, _, _, [], _, [], hW', trodAll_mk1 (shut_bool Try.underlying4 _), (trodAll_cons_mk (shut_int Try.underlying3 w0) (trodAll_cons_mk (Below.trod laidOut (by kernel_rfl) (of_decide_eq_true (by kernel_rfl)) k1 bel lt1) (trodAll_cons_mk (shut_int Try.underlying3 w2) trodAll_mk0))), rfl, bel.frame _, fun h => by cases h⟩
theorem over : Rows.ledgerKeepsRow.holds Try.pinned (OpenSpec.ofChange Rows.ledgerKeepsSpec) :=
  OpenClaim.holds_of_wide 4 Try.f4 rfl rfl rfl rfl rfl rfl rfl ⟨rfl, rfl, rfl, rfl, rfl⟩ rfl rfl rfl rfl rfl (by kernel_rfl) Try.func4 (by kernel_rfl)
    (of_decide_eq_true (by kernel_rfl)) (by unfold Func.isWrapper; first | (rw [if_pos (by decide +kernel)]; kernel_rfl) | (rw [if_neg (by decide +kernel)]; exact ⟨rfl, rfl⟩))
    (fun os started H enc _ => lifted os started H enc)
theorem proved : Rows.LedgerKeepsSaid := over
#print axioms proved
end Go.Proofs.Ytpmfmkkifkpdcaa.ledgerKeeps
namespace Go.Proofs.Ytpmfmkkifkpdcaa
theorem ledgerKeeps_holds : Rows.LedgerKeepsSaid := ledgerKeeps.proved
end Go.Proofs.Ytpmfmkkifkpdcaa

