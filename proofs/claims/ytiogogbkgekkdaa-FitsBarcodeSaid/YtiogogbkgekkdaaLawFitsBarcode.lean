/- The law FitsBarcode, as a row: whatever the ticket, the version and the key, the call returns true, and its arguments read as before. No condition. -/
import Derived.Test.YtiogogbkgekkdaaRows
import Derived.Test.YtiogogbkgekkdaaFitsBar
import Derived.Test.YtiogogbkgekkdaaLeaves
namespace Go.Proofs.Ytiogogbkgekkdaa.fitsBarcode
open Go.ChangeShapes Go.WideShapes Go.ChangeAt Go.RowKit
open Go.ChangeMaps (open_string shut_string)
set_option linter.unusedVariables false
set_option maxRecDepth 100000
theorem own : ownKnob Try.prog.godebug = none := by kernel_rfl
theorem laidOut : laidOutB Try.prog = true := by kernel_rfl
set_option maxRecDepth 100000 in
theorem lifted (os : Os) (started : os.Started) (H : Type) (enc : TypeId × Value → H) :
    ReturnsInHanded {} Try.checked os 3 .any (Rows.fitsBarcodeSpec.pre6 enc Try.prog Try.f3 Rows.fitsBarcodeRow.domain false) (Rows.fitsBarcodeSpec.post enc Try.prog Try.f3 false true false false) := by
  refine returnsInHanded_of_change_sized (C := Try.checked) own started (by kernel_rfl) Try.func3
    (ChangeSpec.witness6 (enc := enc) (C := Try.checked) false ⟨#[], #[.agg #[.int .i64 0, .int .i64 0, .int .i64 0, .int .i64 0, .int .i64 0, .int .i64 0, .int .i64 0, .int .i64 0, .int .i64 0, .int .i64 0, .int .i64 0], .int .i64 0, .agg #[.int .i64 0, .slice none 0 0, .int .i64 0, .int .i64 0]], []⟩ 8 (by kernel_rfl) (by kernel_rfl) (by kernel_rfl) (by kernel_rfl)) ?_
  intro W base args ds gs before hval0 hW hcnd hsz0 _
  have hsz : (DataW.weightsEach Try.prog (Try.f3.params.toList ++ Rows.fitsBarcodeSpec.plain.varTypes Try.prog) (ds ++ gs)).all (· ≤ reachBytes) = true := hsz0
  have hval : ∀ (j : Nat) t v, Try.f3.params[j]? = some t → args[j]? = some v → Value.okWide Try.prog W .any base t v := hval0
  have hW' := hW
  obtain ⟨p, q, hA0, hV, rfl, hfz, hnd⟩ := hW
  have hA : DataW.TrodAll enc Try.prog W 0 (fun _ => true) true Try.f3.params.toList args.toList ds p := hA0
  rw [Try.params3] at hA hval hsz
  obtain ⟨v0, vs0, d0, ds0, p0, q0, hargs, rfl, rfl, h0, r0⟩ := trodAll_cons hA
  obtain ⟨v1, vs1, d1, ds1, p1, q1, rfl, rfl, rfl, h1, r1⟩ := trodAll_cons r0
  obtain ⟨v2, vs2, d2, ds2, p2, q2, rfl, rfl, rfl, h2, r2⟩ := trodAll_cons r1
  obtain ⟨rfl, rfl, rfl⟩ := trodAll_nil r2
  obtain rfl : args = #[v0, v1, v2] := by cases args; simp_all
  obtain ⟨rfl, rfl⟩ := trodVars_none hV
  have k0 := h0
  have lt0 : ∀ x ∈ p0, x.block < W.heap.size := by obtain ⟨m, hm⟩ := k0; exact DataW.trod_lt m _ _ _ hm
  obtain ⟨cs0, rfl, hc0⟩ := okWide_struct Try.underlying23 (hval 0 23 v0 rfl rfl)
  obtain ⟨l0⟩ := cs0
  obtain ⟨fu0, hf0⟩ := h0
  have L0 := open_leaves 6 23 (by kernel_rfl) fu0 _ _ (by simpa [Value.cells] using hc0) hf0
  rw [show leavesOf Try.prog 6 23 = [3, 3, 3, 3, 3, 3, 3, 3, 3, 3, 3] from by kernel_rfl] at L0
  simp only [Value.cells] at L0
  obtain ⟨c0_0, m0_0, rfl, g0_0, L0⟩ := Lv_cons L0
  obtain ⟨c0_1, m0_1, rfl, g0_1, L0⟩ := Lv_cons L0
  obtain ⟨c0_2, m0_2, rfl, g0_2, L0⟩ := Lv_cons L0
  obtain ⟨c0_3, m0_3, rfl, g0_3, L0⟩ := Lv_cons L0
  obtain ⟨c0_4, m0_4, rfl, g0_4, L0⟩ := Lv_cons L0
  obtain ⟨c0_5, m0_5, rfl, g0_5, L0⟩ := Lv_cons L0
  obtain ⟨c0_6, m0_6, rfl, g0_6, L0⟩ := Lv_cons L0
  obtain ⟨c0_7, m0_7, rfl, g0_7, L0⟩ := Lv_cons L0
  obtain ⟨c0_8, m0_8, rfl, g0_8, L0⟩ := Lv_cons L0
  obtain ⟨c0_9, m0_9, rfl, g0_9, L0⟩ := Lv_cons L0
  obtain ⟨c0_10, m0_10, rfl, g0_10, L0⟩ := Lv_cons L0
  obtain rfl := Lv_nil L0
  obtain ⟨a0_0, rfl, w0_0⟩ := leaf_int Try.underlying3 g0_0
  obtain ⟨a0_1, rfl, w0_1⟩ := leaf_int Try.underlying3 g0_1
  obtain ⟨a0_2, rfl, w0_2⟩ := leaf_int Try.underlying3 g0_2
  obtain ⟨a0_3, rfl, w0_3⟩ := leaf_int Try.underlying3 g0_3
  obtain ⟨a0_4, rfl, w0_4⟩ := leaf_int Try.underlying3 g0_4
  obtain ⟨a0_5, rfl, w0_5⟩ := leaf_int Try.underlying3 g0_5
  obtain ⟨a0_6, rfl, w0_6⟩ := leaf_int Try.underlying3 g0_6
  obtain ⟨a0_7, rfl, w0_7⟩ := leaf_int Try.underlying3 g0_7
  obtain ⟨a0_8, rfl, w0_8⟩ := leaf_int Try.underlying3 g0_8
  obtain ⟨a0_9, rfl, w0_9⟩ := leaf_int Try.underlying3 g0_9
  obtain ⟨a0_10, rfl, w0_10⟩ := leaf_int Try.underlying3 g0_10
  obtain ⟨a1, rfl, rfl, rfl, w1⟩ := open_int Try.underlying3 (hval 1 3 v1 rfl rfl) h1
  have k2 := h2
  have lt2 : ∀ x ∈ p2, x.block < W.heap.size := by obtain ⟨m, hm⟩ := k2; exact DataW.trod_lt m _ _ _ hm
  obtain ⟨cs2, rfl, hc2⟩ := okWide_struct Try.underlying26 (hval 2 26 v2 rfl rfl)
  obtain ⟨l2⟩ := cs2
  obtain ⟨fu2, hf2⟩ := h2
  have L2 := open_leaves 6 26 (by kernel_rfl) fu2 _ _ (by simpa [Value.cells] using hc2) hf2
  rw [show leavesOf Try.prog 6 26 = [3, 24, 3, 3] from by kernel_rfl] at L2
  simp only [Value.cells] at L2
  obtain ⟨c2_0, m2_0, rfl, g2_0, L2⟩ := Lv_cons L2
  obtain ⟨c2_1, m2_1, rfl, g2_1, L2⟩ := Lv_cons L2
  obtain ⟨c2_2, m2_2, rfl, g2_2, L2⟩ := Lv_cons L2
  obtain ⟨c2_3, m2_3, rfl, g2_3, L2⟩ := Lv_cons L2
  obtain rfl := Lv_nil L2
  obtain ⟨a2_0, rfl, w2_0⟩ := leaf_int Try.underlying3 g2_0
  obtain ⟨A2_1, len2_1, cap2_1, zs2_1, rfl, w2_1⟩ := leaf_row Try.underlying24 Try.underlying5 (by kernel_rfl) g2_1
  obtain ⟨hq2_1, hm2_1⟩ := row_caps w2_1
  obtain ⟨b2_1, rfl, hr2_1, hl2_1, hw2_1⟩ := rd_of_row w2_1
  obtain ⟨a2_2, rfl, w2_2⟩ := leaf_int Try.underlying3 g2_2
  obtain ⟨a2_3, rfl, w2_3⟩ := leaf_int Try.underlying3 g2_3
  clear hA0 hval0 hsz0 hsz
  refine (fitsBarcode_any a0_0 a0_1 a0_2 a0_3 a0_4 a0_5 a0_6 a0_7 a0_8 a0_9 a0_10 a1 a2_0 a2_2 a2_3 A2_1 cap2_1 b2_1 W hr2_1 hq2_1 hm2_1 (wfu8 hw2_1)).mono fun e W' ⟨he, bel⟩ => ?_
  subst he
  exact ⟨_, rfl, _, _, _, [], _, [], hW', trodAll_mk1 (shut_bool Try.underlying4 _), (trodAll_cons_mk (Below.trod laidOut (by kernel_rfl) (of_decide_eq_true (by kernel_rfl)) k0 bel lt0) (trodAll_cons_mk (shut_int Try.underlying3 w1) (trodAll_cons_mk (Below.trod laidOut (by kernel_rfl) (of_decide_eq_true (by kernel_rfl)) k2 bel lt2) trodAll_mk0))), rfl, bel.frame _, fun h => by cases h⟩
theorem over : Rows.fitsBarcodeRow.holds Try.pinned (OpenSpec.ofChange Rows.fitsBarcodeSpec) :=
  OpenClaim.holds_of_wide 3 Try.f3 rfl rfl rfl rfl rfl rfl rfl ⟨rfl, rfl, rfl, rfl, rfl⟩ rfl rfl rfl rfl rfl (by kernel_rfl) Try.func3 (by kernel_rfl)
    (of_decide_eq_true (by kernel_rfl)) (by unfold Func.isWrapper; first | (rw [if_pos (by decide +kernel)]; kernel_rfl) | (rw [if_neg (by decide +kernel)]; exact ⟨rfl, rfl⟩))
    (fun os started H enc _ => lifted os started H enc)
theorem proved : Rows.FitsBarcodeSaid := over
#print axioms proved
end Go.Proofs.Ytiogogbkgekkdaa.fitsBarcode
namespace Go.Proofs.Ytiogogbkgekkdaa
theorem fitsBarcode_holds : Rows.FitsBarcodeSaid := fitsBarcode.proved
end Go.Proofs.Ytiogogbkgekkdaa
