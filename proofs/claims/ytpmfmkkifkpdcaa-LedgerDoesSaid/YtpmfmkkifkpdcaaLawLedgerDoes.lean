/- The law LedgerDoes, as a row: whatever the room, the entries and the bools, the call returns true, and its arguments read as before. No condition. -/
import Derived.Test.YtpmfmkkifkpdcaaRows
import Derived.Test.YtpmfmkkifkpdcaaLedDoesLaw
import Derived.Test.YtpmfmkkifkpdcaaLedDoesNo
import Derived.Test.YtpmfmkkifkpdcaaLedKept
import Derived.Test.YtpmfmkkifkpdcaaEntsOpen
namespace Go.Proofs.Ytpmfmkkifkpdcaa
open Go.RowKit
theorem ledgerDoes_any (room : Int) (A B : Option Addr) (c d : Nat) (l : List En) (bl : List Bool) (w : World) (hr : RdE w A l) (hbl : RdB w B bl) (hwf : ∀ e ∈ l, (Lit.int .i64 e.a0).wf = true) :
    Calls Try.prog 3 #[.int .i64 room, .slice A l.length c, .slice B bl.length d] w fun r w' => r = .returned (.bool true) ∧ Below w.heap.size w w' := by
  by_cases h1 : 200 < l.length
  · exact ledgerDoes_long room A B c d l.length bl.length w h1
  · by_cases h2 : room < 1 ∨ 64 < room
    · exact ledgerDoes_no room A B c d l.length bl.length w kept_any (by omega) h2
    · exact ledgerDoes_yes room A B c d l bl w kept_any hr hbl hwf (by omega) (by omega) (by omega)
end Go.Proofs.Ytpmfmkkifkpdcaa
namespace Go.Proofs.Ytpmfmkkifkpdcaa.ledgerDoes
open Go.ChangeShapes Go.WideShapes Go.ChangeAt Go.RowKit
open Go.ChangeMaps (open_string shut_string)
set_option linter.unusedVariables false
set_option maxRecDepth 100000
theorem own : ownKnob Try.prog.godebug = none := by kernel_rfl
theorem laidOut : laidOutB Try.prog = true := by kernel_rfl
set_option maxRecDepth 100000 in
theorem lifted (os : Os) (started : os.Started) (H : Type) (enc : TypeId × Value → H) :
    ReturnsInHanded {} Try.checked os 3 .any (Rows.ledgerDoesSpec.pre6 enc Try.prog Try.f3 Rows.ledgerDoesRow.domain false) (Rows.ledgerDoesSpec.post enc Try.prog Try.f3 false true false false) := by
  refine returnsInHanded_of_change_sized (C := Try.checked) own started (by kernel_rfl) Try.func3
    (ChangeSpec.witness6 (enc := enc) (C := Try.checked) false ⟨#[], #[.int .i64 0, .slice none 0 0, .slice none 0 0], []⟩ 8 (by kernel_rfl) (by kernel_rfl) (by kernel_rfl) (by kernel_rfl)) ?_
  intro W base args ds gs before hval0 hW hcnd hsz0 _
  have hsz : (DataW.weightsEach Try.prog (Try.f3.params.toList ++ Rows.ledgerDoesSpec.plain.varTypes Try.prog) (ds ++ gs)).all (· ≤ reachBytes) = true := hsz0
  have hval : ∀ (j : Nat) t v, Try.f3.params[j]? = some t → args[j]? = some v → Value.okWide Try.prog W .any base t v := hval0
  have hW' := hW
  obtain ⟨p, q, hA0, hV, rfl, hfz, hnd⟩ := hW
  have hA : DataW.TrodAll enc Try.prog W 0 (fun _ => true) true Try.f3.params.toList args.toList ds p := hA0
  rw [Try.params3] at hA hval hsz
  obtain ⟨v0, vs0, d0, ds0, p0, q0, hargs, rfl, rfl, h0, r0⟩ := trodAll_cons hA
  obtain ⟨v1, vs1, d1, ds1, p1, q1, rfl, rfl, rfl, h1, r1⟩ := trodAll_cons r0
  obtain ⟨v2, vs2, d2, ds2, p2, q2, rfl, rfl, rfl, h2, r2⟩ := trodAll_cons r1
  obtain ⟨rfl, rfl, rfl⟩ := trodAll_nil r2
  obtain rfl : args = #[v0, v1, v2] := by cases args; simp_all
  obtain ⟨rfl, rfl⟩ := trodVars_none hV
  obtain ⟨a0, rfl, rfl, rfl, w0⟩ := open_int Try.underlying3 (hval 0 3 v0 rfl rfl) h0
  obtain ⟨A1, len1, cap1, rfl⟩ := okWide_slice Try.underlying22 (hval 1 22 v1 rfl rfl)
  have k1 := h1
  have lt1 : ∀ x ∈ p1, x.block < W.heap.size := by obtain ⟨m, hm⟩ := k1; exact DataW.trod_lt m _ _ _ hm
  obtain ⟨S1, rfl, hr1, hl1, hw1⟩ : ∃ S : List En, len1 = S.length ∧ RdE W A1 S ∧ S.length ≤ 9223372036854775807 ∧ ∀ e ∈ S, (Lit.int .i64 e.a0).wf = true := by
    obtain ⟨fuel, hf⟩ := h1
    exact ents_open hf
  obtain ⟨A2, len2, cap2, rfl⟩ := okWide_slice Try.underlying23 (hval 2 23 v2 rfl rfl)
  have k2 := h2
  have lt2 : ∀ x ∈ p2, x.block < W.heap.size := by obtain ⟨m, hm⟩ := k2; exact DataW.trod_lt m _ _ _ hm
  obtain ⟨b2, rfl, hr2, hl2⟩ : ∃ l : List Bool, len2 = l.length ∧ RdB W A2 l ∧ l.length ≤ 9223372036854775807 := by
    obtain ⟨fuel, hf⟩ := h2
    exact bools_open hf
  clear hA0 hval0 hsz0 hsz
  refine (ledgerDoes_any a0 A1 A2 cap1 cap2 S1 b2 W hr1 hr2 hw1).mono fun e W' ⟨he, bel⟩ => ?_
  subst he
  exact ⟨_, rfl, _, _, _, [], _, [], hW', trodAll_mk1 (shut_bool Try.underlying4 _), (trodAll_cons_mk (shut_int Try.underlying3 w0) (trodAll_cons_mk (Below.trod laidOut (by kernel_rfl) (of_decide_eq_true (by kernel_rfl)) k1 bel lt1) (trodAll_cons_mk (Below.trod laidOut (by kernel_rfl) (of_decide_eq_true (by kernel_rfl)) k2 bel lt2) trodAll_mk0))), rfl, bel.frame _, fun h => by cases h⟩
theorem over : Rows.ledgerDoesRow.holds Try.pinned (OpenSpec.ofChange Rows.ledgerDoesSpec) :=
  OpenClaim.holds_of_wide 3 Try.f3 rfl rfl rfl rfl rfl rfl rfl ⟨rfl, rfl, rfl, rfl, rfl⟩ rfl rfl rfl rfl rfl (by kernel_rfl) Try.func3 (by kernel_rfl)
    (of_decide_eq_true (by kernel_rfl)) (by unfold Func.isWrapper; first | (rw [if_pos (by decide +kernel)]; kernel_rfl) | (rw [if_neg (by decide +kernel)]; exact ⟨rfl, rfl⟩))
    (fun os started H enc _ => lifted os started H enc)
theorem proved : Rows.LedgerDoesSaid := over
#print axioms proved
end Go.Proofs.Ytpmfmkkifkpdcaa.ledgerDoes
namespace Go.Proofs.Ytpmfmkkifkpdcaa
theorem ledgerDoes_holds : Rows.LedgerDoesSaid := ledgerDoes.proved
end Go.Proofs.Ytpmfmkkifkpdcaa

