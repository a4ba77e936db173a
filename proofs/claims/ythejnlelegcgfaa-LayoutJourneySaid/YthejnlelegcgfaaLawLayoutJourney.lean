/- The law LayoutJourney, as a row: whatever the reading and the journey, the call returns true. No condition. -/
import Derived.Test.YthejnlelegcgfaaRows
import Derived.Test.YthejnlelegcgfaaLayJourney
namespace Go.Proofs.Ythejnlelegcgfaa.layoutJourney
open Go.ChangeShapes Go.WideShapes Go.ChangeAt Go.RowKit
open Go.ChangeMaps (open_string shut_string)
set_option linter.unusedVariables false
theorem own : ownKnob Try.prog.godebug = none := by kernel_rfl
theorem laidOut : laidOutB Try.prog = true := by kernel_rfl
set_option maxRecDepth 100000 in
theorem lifted (os : Os) (started : os.Started) (H : Type) (enc : TypeId × Value → H) :
    ReturnsInHanded {} Try.checked os 17 .any (Rows.layoutJourneySpec.pre6 enc Try.prog Try.f17 Rows.layoutJourneyRow.domain false) (Rows.layoutJourneySpec.post enc Try.prog Try.f17 false true false false) := by
  refine returnsInHanded_of_change_sized (C := Try.checked) own started (by kernel_rfl) Try.func17
    (ChangeSpec.witness6 (enc := enc) (C := Try.checked) false ⟨#[], #[.agg #[.int .i64 0, .int .i64 0, .int .i64 0, .int .i64 0, .int .i64 0, .int .i64 0, .int .i64 0, .int .i64 0, .int .i64 0, .int .i64 0, .int .i64 0, .int .i64 0, .int .i64 0, .int .i64 0, .int .i64 0], .agg #[.int .i64 0, .int .i64 0]], []⟩ 8 (by kernel_rfl) (by kernel_rfl) (by kernel_rfl) (by kernel_rfl)) ?_
  intro W base args ds gs before hval0 hW hcnd hsz0 _
  have hsz : (DataW.weightsEach Try.prog (Try.f17.params.toList ++ Rows.layoutJourneySpec.plain.varTypes Try.prog) (ds ++ gs)).all (· ≤ reachBytes) = true := hsz0
  have hval : ∀ (j : Nat) t v, Try.f17.params[j]? = some t → args[j]? = some v → Value.okWide Try.prog W .any base t v := hval0
  have hW' := hW
  obtain ⟨p, q, hA0, hV, rfl, hfz, hnd⟩ := hW
  have hA : DataW.TrodAll enc Try.prog W 0 (fun _ => true) true Try.f17.params.toList args.toList ds p := hA0
  rw [Try.params17] at hA hval hsz
  obtain ⟨v0, vs0, d0, ds0, p0, q0, hargs, rfl, rfl, h0, r0⟩ := trodAll_cons hA
  obtain ⟨v1, vs1, d1, ds1, p1, q1, rfl, rfl, rfl, h1, r1⟩ := trodAll_cons r0
  obtain ⟨rfl, rfl, rfl⟩ := trodAll_nil r1
  obtain rfl : args = #[v0, v1] := by cases args; simp_all
  obtain ⟨rfl, rfl⟩ := trodVars_none hV
  have k0 := h0
  have lt0 : ∀ x ∈ p0, x.block < W.heap.size := by obtain ⟨m, hm⟩ := k0; exact DataW.trod_lt m _ _ _ hm
  obtain ⟨cs0, rfl, hc0⟩ := okWide_struct Try.underlying52 (hval 0 52 v0 rfl rfl)
  obtain ⟨l0⟩ := cs0
  obtain ⟨fu0, hf0⟩ := h0
  have L0 := open_leaves 6 52 (by kernel_rfl) fu0 _ _ (by simpa [Value.cells] using hc0) hf0
  rw [show leavesOf Try.prog 6 52 = [3, 3, 3, 3, 3, 3, 3, 3, 3, 3, 3, 3, 3, 3, 3] from by kernel_rfl] at L0
  simp only [Value.cells] at L0
  obtain ⟨c0_0, m0_0, rfl, g0_0, L0⟩ := Lv_cons L0
  obtain ⟨c0_1, m0_1, rfl, g0_1, L0⟩ := Lv_cons L0
  obtain ⟨c0_2, m0_2, rfl, g0_2, L0⟩ := Lv_cons L0
  obtain ⟨c0_3, m0_3, rfl, g0_3, L0⟩ := Lv_cons L0
  obtain ⟨c0_4, m0_4, rfl, g0_4, L0⟩ := Lv_cons L0
  obtain ⟨c0_5, m0_5, rfl, g0_5, L0⟩ := Lv_cons L0
  obtain ⟨c0_6, m0_6, rfl, g0_6, L0⟩ := Lv_cons L0
  obtain ⟨c0_7, m0_7, rfl, g0_7, L0⟩ := Lv_cons L0
  obtain ⟨c0_8, m0_8, rfl, g0_8, L0⟩ := Lv_cons L0
  obtain ⟨c0_9, m0_9, rfl, g0_9, L0⟩ := Lv_cons L0
  obtain ⟨c0_10, m0_10, rfl, g0_10, L0⟩ := Lv_cons L0
  obtain ⟨c0_11, m0_11, rfl, g0_11, L0⟩ := Lv_cons L0
  obtain ⟨c0_12, m0_12, rfl, g0_12, L0⟩ := Lv_cons L0
  obtain ⟨c0_13, m0_13, rfl, g0_13, L0⟩ := Lv_cons L0
  obtain ⟨c0_14, m0_14, rfl, g0_14, L0⟩ := Lv_cons L0
  obtain rfl := Lv_nil L0
  obtain ⟨a0_0, rfl, w0_0⟩ := leaf_int Try.underlying3 g0_0
  obtain ⟨a0_1, rfl, w0_1⟩ := leaf_int Try.underlying3 g0_1
  obtain ⟨a0_2, rfl, w0_2⟩ := leaf_int Try.underlying3 g0_2
  obtain ⟨a0_3, rfl, w0_3⟩ := leaf_int Try.underlying3 g0_3
  obtain ⟨a0_4, rfl, w0_4⟩ := leaf_int Try.underlying3 g0_4
  obtain ⟨a0_5, rfl, w0_5⟩ := leaf_int Try.underlying3 g0_5
  obtain ⟨a0_6, rfl, w0_6⟩ := leaf_int Try.underlying3 g0_6
  obtain ⟨a0_7, rfl, w0_7⟩ := leaf_int Try.underlying3 g0_7
  obtain ⟨a0_8, rfl, w0_8⟩ := leaf_int Try.underlying3 g0_8
  obtain ⟨a0_9, rfl, w0_9⟩ := leaf_int Try.underlying3 g0_9
  obtain ⟨a0_10, rfl, w0_10⟩ := leaf_int Try.underlying3 g0_10
  obtain ⟨a0_11, rfl, w0_11⟩ := leaf_int Try.underlying3 g0_11
  obtain ⟨a0_12, rfl, w0_12⟩ := leaf_int Try.underlying3 g0_12
  obtain ⟨a0_13, rfl, w0_13⟩ := leaf_int Try.underlying3 g0_13
  obtain ⟨a0_14, rfl, w0_14⟩ := leaf_int Try.underlying3 g0_14
  have k1 := h1
  have lt1 : ∀ x ∈ p1, x.block < W.heap.size := by obtain ⟨m, hm⟩ := k1; exact DataW.trod_lt m _ _ _ hm
  obtain ⟨cs1, rfl, hc1⟩ := okWide_struct Try.underlying50 (hval 1 50 v1 rfl rfl)
  obtain ⟨l1⟩ := cs1
  obtain ⟨fu1, hf1⟩ := h1
  have L1 := open_leaves 6 50 (by kernel_rfl) fu1 _ _ (by simpa [Value.cells] using hc1) hf1
  rw [show leavesOf Try.prog 6 50 = [3, 3] from by kernel_rfl] at L1
  simp only [Value.cells] at L1
  obtain ⟨c1_0, m1_0, rfl, g1_0, L1⟩ := Lv_cons L1
  obtain ⟨c1_1, m1_1, rfl, g1_1, L1⟩ := Lv_cons L1
  obtain rfl := Lv_nil L1
  obtain ⟨a1_0, rfl, w1_0⟩ := leaf_int Try.underlying3 g1_0
  obtain ⟨a1_1, rfl, w1_1⟩ := leaf_int Try.underlying3 g1_1
  clear hA0 hval0 hsz0 hsz
  refine (layoutJourney_any a0_0 a0_1 a0_2 a0_3 a0_4 a0_5 a0_6 a0_7 a0_8 a0_9 a0_10 a0_11 a0_12 a0_13 a0_14 a1_0 a1_1 W (le15 (wf64 w0_0).2 (wf64 w0_1).2 (wf64 w0_2).2 (wf64 w0_3).2 (wf64 w0_4).2 (wf64 w0_5).2 (wf64 w0_6).2 (wf64 w0_7).2 (wf64 w0_8).2 (wf64 w0_9).2 (wf64 w0_10).2 (wf64 w0_11).2 (wf64 w0_12).2 (wf64 w0_13).2 (wf64 w0_14).2) (le15 (wf64 w0_0).2 (wf64 w0_1).2 (wf64 w0_2).2 (wf64 w0_3).2 (wf64 w0_4).2 (wf64 w0_5).2 (wf64 w0_6).2 (wf64 w0_7).2 (wf64 w0_8).2 (wf64 w0_9).2 (wf64 w0_10).2 (wf64 w0_11).2 (wf64 w1_0).2 (wf64 w1_1).2 (wf64 w0_14).2)).mono fun e W' ⟨he, bel⟩ => ?_
  subst he
  exact ⟨_, rfl, _, _, _, [], _, [], hW', trodAll_mk1 (shut_bool Try.underlying4 _), (trodAll_cons_mk (Below.trod laidOut (by kernel_rfl) (of_decide_eq_true (by kernel_rfl)) k0 bel lt0) (trodAll_cons_mk (Below.trod laidOut (by kernel_rfl) (of_decide_eq_true (by kernel_rfl)) k1 bel lt1) trodAll_mk0)), rfl, bel.frame _, fun h => by cases h⟩
theorem over : Rows.layoutJourneyRow.holds Try.pinned (OpenSpec.ofChange Rows.layoutJourneySpec) :=
  OpenClaim.holds_of_wide 17 Try.f17 rfl rfl rfl rfl rfl rfl rfl ⟨rfl, rfl, rfl, rfl, rfl⟩ rfl rfl rfl rfl rfl (by kernel_rfl) Try.func17 (by kernel_rfl)
    (of_decide_eq_true (by kernel_rfl)) (by unfold Func.isWrapper; first | (rw [if_pos (by decide +kernel)]; kernel_rfl) | (rw [if_neg (by decide +kernel)]; exact ⟨rfl, rfl⟩))
    (fun os started H enc _ => lifted os started H enc)
theorem proved : Rows.LayoutJourneySaid := over
#print axioms proved
end Go.Proofs.Ythejnlelegcgfaa.layoutJourney
namespace Go.Proofs.Ythejnlelegcgfaa
theorem layoutJourney_holds : Rows.LayoutJourneySaid := layoutJourney.proved
end Go.Proofs.Ythejnlelegcgfaa

