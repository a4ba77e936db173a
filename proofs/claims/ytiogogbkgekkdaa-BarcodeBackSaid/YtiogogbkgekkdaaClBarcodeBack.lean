/- Layer 19's law BarcodeBack, walked: what was encoded is decoded again. The law BarcodeBack, as a row: whatever the ring and the reading, the call returns true, and its arguments read as before. No condition. -/
import Derived.Test.YtiogogbkgekkdaaM35
import Derived.Test.YtiogogbkgekkdaaM36
import Derived.Test.YtiogogbkgekkdaaRows
import Derived.Test.YtiogogbkgekkdaaM01
namespace Go.Proofs.Ytiogogbkgekkdaa
open Go.RowKit
set_option linter.unusedVariables false
set_option maxRecDepth 100000
set_option linter.unusedSimpArgs false

set_option maxHeartbeats 8000000 in
set_option maxRecDepth 100000 in
theorem barcodeBack_any (A : Option Addr) (c : Nat) (ks : List Ky) (a0 a1 a2 a3 a4 a5 a6 a7 a8 a9 a10 a11 a12 a13 a14 : Int) (w : World) (hr : RdK w A ks) (hl : ks.length ≤ 9223372036854775807) :
    Calls Try.prog 8 #[.slice A ks.length c, .agg #[.int .i64 a0, .int .i64 a1, .int .i64 a2, .int .i64 a3, .int .i64 a4, .int .i64 a5, .int .i64 a6, .int .i64 a7, .int .i64 a8, .int .i64 a9, .int .i64 a10, .int .i64 a11, .int .i64 a12, .int .i64 a13, .int .i64 a14]] w fun e w' => e = .returned (.bool true) ∧ Below w.heap.size w w' := by
  have hE := fun W hW => bcEncode_any A c ks a0 a1 a2 a3 a4 a5 a6 a7 a8 a9 a10 a11 a12 a13 a14 W hW hl
  have hB := fun W hW => big_any A c ks W hW hl
  have hD := fun As cs s W h1 h2 h3 h4 h5 h6 => bcDecode_any A c ks As cs s W h1 hl h2 h3 h4 h5 h6
  have hV := fun As cs s W h2 h3 h4 h5 h6 => bcVersion_any As cs s W h2 h3 h4 h5 h6
  have hed := fun s => enc_dec (ks := ks) (l := [a0, a1, a2, a3, a4, a5, a6, a7, a8, a9, a10, a11, a12, a13, a14]) (s := s) rfl
  have hbyte : (encE ks [a0, a1, a2, a3, a4, a5, a6, a7, a8, a9, a10, a11, a12, a13, a14]).2 = 0 → ∃ q : List Int, (encE ks [a0, a1, a2, a3, a4, a5, a6, a7, a8, a9, a10, a11, a12, a13, a14]).1 = fortyPut q ∧ q.length ≤ 1000000 := by
    intro h
    obtain ⟨q, k, _, _, _, h4, _, _, h7, _⟩ := enc_parts (ks := ks) (l := [a0, a1, a2, a3, a4, a5, a6, a7, a8, a9, a10, a11, a12, a13, a14]) (s := (encE ks [a0, a1, a2, a3, a4, a5, a6, a7, a8, a9, a10, a11, a12, a13, a14]).1) rfl (Prod.ext rfl h)
    obtain ⟨t3, t4⟩ := tlvB_facts _ 0 h4 (by omega)
    have := putF_len q (fun f hf => (t4 f hf).2.2)
    exact ⟨_, h7, by rw [List.length_append, tagN_len]; omega⟩
  generalize encE ks [a0, a1, a2, a3, a4, a5, a6, a7, a8, a9, a10, a11, a12, a13, a14] = rv at *
  have hr1 := hr.below (bel1 w (.cells #[.int .i64 a0, .int .i64 a1, .int .i64 a2, .int .i64 a3, .int .i64 a4, .int .i64 a5, .int .i64 a6, .int .i64 a7, .int .i64 a8, .int .i64 a9, .int .i64 a10, .int .i64 a11, .int .i64 a12, .int .i64 a13, .int .i64 a14] 35)) (Nat.le_refl _)
  have hP1 := heap_alloc_new w (.cells #[.int .i64 a0, .int .i64 a1, .int .i64 a2, .int .i64 a3, .int .i64 a4, .int .i64 a5, .int .i64 a6, .int .i64 a7, .int .i64 a8, .int .i64 a9, .int .i64 a10, .int .i64 a11, .int .i64 a12, .int .i64 a13, .int .i64 a14] 35)
  have B1 := bel1 w (.cells #[.int .i64 a0, .int .i64 a1, .int .i64 a2, .int .i64 a3, .int .i64 a4, .int .i64 a5, .int .i64 a6, .int .i64 a7, .int .i64 a8, .int .i64 a9, .int .i64 a10, .int .i64 a11, .int .i64 a12, .int .i64 a13, .int .i64 a14] 35)
  by_cases h0 : rv.2 = 0
  rotate_left
  · have hzb : (rv.2 != 0) = true := by simpa using h0
    clear h0 hed hbyte hD hV
    cases hbg : bigB ks
    all_goals
      go_enter Try.func8, Try.ntmps8
      go_wp2_with (first | (go_at_call 17; (with_reducible refine (hE _ hr1).mono ?_); rintro e w2 ⟨v, rfl, _, hb2⟩; have hr2 := hr1.below hb2 (Nat.le_refl _); have B2 := bT B1 hb2; clear hb2) | (go_at_call 22; (with_reducible refine (hB _ hr2).mono ?_); rintro e w3 ⟨he, rfl⟩; rw [hbg] at he; subst he) | (go_at_call 24; (with_reducible refine (coded19_any _).mono ?_); rintro e w4 ⟨rfl, hb4⟩))
      go_ret
      exact ⟨rfl, bT B2 hb4⟩
  · have hzb : (rv.2 != 0) = false := by simpa using h0
    obtain ⟨q, hq, hq6⟩ := hbyte h0
    obtain ⟨hd1, hv1⟩ := hed rv.1 (Prod.ext rfl h0)
    clear hed hbyte h0
    cases hbg : bigB ks
    rotate_left
    · clear hD hV hd1 hv1
      go_enter Try.func8, Try.ntmps8
      go_wp2_with (first | (go_at_call 17; (with_reducible refine (hE _ hr1).mono ?_); rintro e w2 ⟨v, rfl, _, hb2⟩; have hr2 := hr1.below hb2 (Nat.le_refl _); have B2 := bT B1 hb2; clear hb2) | (go_at_call 22; (with_reducible refine (hB _ hr2).mono ?_); rintro e w3 ⟨he, rfl⟩; rw [hbg] at he; subst he) | (go_at_call 24; (with_reducible refine (coded19_any _).mono ?_); rintro e w4 ⟨rfl, hb4⟩))
      go_ret
      exact ⟨rfl, bT B2 hb4⟩
    · have hsl : rv.1.length ≤ 140737488351232 := by rw [hq, fortyPut_len]; omega
      have hsb : ∀ x ∈ rv.1, 0 ≤ x ∧ x < 256 := by rw [hq]; exact fortyPut_byte q
      obtain ⟨s, hs⟩ : ∃ s, rv.1 = s := ⟨_, rfl⟩
      obtain ⟨n, hn⟩ : ∃ n, s.length = n := ⟨_, rfl⟩
      rw [hs] at hd1 hv1 hsl hsb
      have hD2 : ∀ As cs W, RdK W A ks → RdI W .u8 As s → n ≤ cs → cs ≤ 9223372036854775807 → Calls Try.prog 26 #[.slice A ks.length c, .slice As n cs] W fun e w' => e = .returned (.tuple #[.agg #[.int .i64 a0, .int .i64 a1, .int .i64 a2, .int .i64 a3, .int .i64 a4, .int .i64 a5, .int .i64 a6, .int .i64 a7, .int .i64 a8, .int .i64 a9, .int .i64 a10, .int .i64 a11, .int .i64 a12, .int .i64 a13, .int .i64 a14], .int .i64 0]) ∧ Below W.heap.size W w' := by
        intro As cs W g1 g2 g3 g4
        have h := hD As cs s W g1 g2 (by omega) g4 hsb hsl
        rw [hd1, hn] at h
        exact h
      have hV2 : ∀ As cs W, RdI W .u8 As s → n ≤ cs → cs ≤ 9223372036854775807 → Calls Try.prog 28 #[.slice As n cs] W fun e w' => e = .returned (.tuple #[.int .i64 a14, .int .i64 0]) ∧ Below W.heap.size W w' := by
        intro As cs W g2 g3 g4
        have h := hV As cs s W g2 (by omega) g4 hsb hsl
        rw [hv1, hn] at h
        exact h
      have hE2 : ∀ W, RdK W A ks → Calls Try.prog 17 #[.slice A ks.length c, .agg #[.int .i64 a0, .int .i64 a1, .int .i64 a2, .int .i64 a3, .int .i64 a4, .int .i64 a5, .int .i64 a6, .int .i64 a7, .int .i64 a8, .int .i64 a9, .int .i64 a10, .int .i64 a11, .int .i64 a12, .int .i64 a13, .int .i64 a14]] W fun e w' => ∃ As cs, e = .returned (.tuple #[.slice As n cs, .int .i64 rv.2]) ∧ RdI w' .u8 As s ∧ n ≤ cs ∧ cs ≤ 9223372036854775807 ∧ Below W.heap.size W w' := by
        intro W hW
        refine (hE W hW).mono ?_
        rintro e w2 ⟨v, rfl, ho, hb2⟩
        rw [hs] at ho
        obtain ⟨As, cs, rfl, u1, u2⟩ := own_slice ho
        unfold maxLen at u2
        exact ⟨As, cs, by rw [hn], RdI.of_own ho, by omega, by omega, hb2⟩
      clear hD hV hd1 hv1 hsb hsl hs hE hn hq hq6
      go_enter Try.func8, Try.ntmps8
      go_wp2_with (first | (go_at_call 17; (with_reducible refine (hE2 _ hr1).mono ?_); rintro e w2 ⟨As, cs, rfl, hs2, n1, n2, hb2⟩; have hr2 := hr1.below hb2 (Nat.le_refl _); have P2 := (hb2.block w.heap.size (by simp)).trans hP1; have B2 := bT B1 hb2; clear hb2) | (go_at_call 22; (with_reducible refine (hB _ hr2).mono ?_); rintro e w3 ⟨he, rfl⟩; rw [hbg] at he; subst he) | (go_at_call 26; (with_reducible refine (hD2 As cs _ hr2 hs2 n1 n2).mono ?_); rintro e w5 ⟨rfl, hb5⟩; have hC5 := bA hb5 (.cells #[.int .i64 a0, .int .i64 a1, .int .i64 a2, .int .i64 a3, .int .i64 a4, .int .i64 a5, .int .i64 a6, .int .i64 a7, .int .i64 a8, .int .i64 a9, .int .i64 a10, .int .i64 a11, .int .i64 a12, .int .i64 a13, .int .i64 a14] 35); have X5 := heap_alloc_new w5 (.cells #[.int .i64 a0, .int .i64 a1, .int .i64 a2, .int .i64 a3, .int .i64 a4, .int .i64 a5, .int .i64 a6, .int .i64 a7, .int .i64 a8, .int .i64 a9, .int .i64 a10, .int .i64 a11, .int .i64 a12, .int .i64 a13, .int .i64 a14] 35); have S5 := hs2.below hC5; have P5 := (hC5.block w.heap.size (Array.getElem?_eq_some_iff.1 P2).1).trans P2; have B5 := bT B2 hC5; clear hb5 hC5) | (go_at_call 28; (with_reducible refine (hV2 As cs _ S5 n1 n2).mono ?_); rintro e w6 ⟨rfl, hb6⟩; have P6 := (hb6.block w.heap.size (Array.getElem?_eq_some_iff.1 P5).1).trans P5; have X6 := (hb6.block w5.heap.size (by simp)).trans X5; have B6 := bT B5 hb6; clear hb6) | (go_at_call 24; (with_reducible refine (coded19_any _).mono ?_); rintro e w4 ⟨rfl, hb4⟩; have P7 := (hb4.block w.heap.size (Array.getElem?_eq_some_iff.1 P6).1).trans P6; have X7 := (hb4.block w5.heap.size (Array.getElem?_eq_some_iff.1 X6).1).trans X6; have B7 := bT B6 hb4; have cx0 := cell_of_row _ w5.heap.size 0 _ _ _ X7; have cp0 := cell_of_row _ w.heap.size 0 _ _ _ P7; have cx1 := cell_of_row _ w5.heap.size 1 _ _ _ X7; have cp1 := cell_of_row _ w.heap.size 1 _ _ _ P7; have cx2 := cell_of_row _ w5.heap.size 2 _ _ _ X7; have cp2 := cell_of_row _ w.heap.size 2 _ _ _ P7; have cx3 := cell_of_row _ w5.heap.size 3 _ _ _ X7; have cp3 := cell_of_row _ w.heap.size 3 _ _ _ P7; have cx4 := cell_of_row _ w5.heap.size 4 _ _ _ X7; have cp4 := cell_of_row _ w.heap.size 4 _ _ _ P7; have cx5 := cell_of_row _ w5.heap.size 5 _ _ _ X7; have cp5 := cell_of_row _ w.heap.size 5 _ _ _ P7; have cx6 := cell_of_row _ w5.heap.size 6 _ _ _ X7; have cp6 := cell_of_row _ w.heap.size 6 _ _ _ P7; have cx7 := cell_of_row _ w5.heap.size 7 _ _ _ X7; have cp7 := cell_of_row _ w.heap.size 7 _ _ _ P7; have cx8 := cell_of_row _ w5.heap.size 8 _ _ _ X7; have cp8 := cell_of_row _ w.heap.size 8 _ _ _ P7; have cx9 := cell_of_row _ w5.heap.size 9 _ _ _ X7; have cp9 := cell_of_row _ w.heap.size 9 _ _ _ P7; have cx10 := cell_of_row _ w5.heap.size 10 _ _ _ X7; have cp10 := cell_of_row _ w.heap.size 10 _ _ _ P7; have cx11 := cell_of_row _ w5.heap.size 11 _ _ _ X7; have cp11 := cell_of_row _ w.heap.size 11 _ _ _ P7; have cx12 := cell_of_row _ w5.heap.size 12 _ _ _ X7; have cp12 := cell_of_row _ w.heap.size 12 _ _ _ P7; have cx13 := cell_of_row _ w5.heap.size 13 _ _ _ X7; have cp13 := cell_of_row _ w.heap.size 13 _ _ _ P7; have cx14 := cell_of_row _ w5.heap.size 14 _ _ _ X7; have cp14 := cell_of_row _ w.heap.size 14 _ _ _ P7; clear hb4))
      go_ret
      trace_state
      exact ⟨by simp, B7⟩
end Go.Proofs.Ytiogogbkgekkdaa

namespace Go.Proofs.Ytiogogbkgekkdaa.barcodeBack
open Go.ChangeShapes Go.WideShapes Go.ChangeAt Go.RowKit
open Go.ChangeMaps (open_string shut_string)
set_option linter.unusedVariables false
set_option maxRecDepth 100000
theorem own : ownKnob Try.prog.godebug = none := by kernel_rfl
theorem laidOut : laidOutB Try.prog = true := by kernel_rfl
set_option maxRecDepth 100000 in
theorem lifted (os : Os) (started : os.Started) (H : Type) (enc : TypeId × Value → H) :
    ReturnsInHanded {} Try.checked os 8 .any (Rows.barcodeBackSpec.pre6 enc Try.prog Try.f8 Rows.barcodeBackRow.domain false) (Rows.barcodeBackSpec.post enc Try.prog Try.f8 false true false false) := by
  refine returnsInHanded_of_change_sized (C := Try.checked) own started (by kernel_rfl) Try.func8
    (ChangeSpec.witness6 (enc := enc) (C := Try.checked) false ⟨#[], #[.slice none 0 0, .agg #[.int .i64 0, .int .i64 0, .int .i64 0, .int .i64 0, .int .i64 0, .int .i64 0, .int .i64 0, .int .i64 0, .int .i64 0, .int .i64 0, .int .i64 0, .int .i64 0, .int .i64 0, .int .i64 0, .int .i64 0]], []⟩ 8 (by kernel_rfl) (by kernel_rfl) (by kernel_rfl) (by kernel_rfl)) ?_
  intro W base args ds gs before hval0 hW hcnd hsz0 _
  have hsz : (DataW.weightsEach Try.prog (Try.f8.params.toList ++ Rows.barcodeBackSpec.plain.varTypes Try.prog) (ds ++ gs)).all (· ≤ reachBytes) = true := hsz0
  have hval : ∀ (j : Nat) t v, Try.f8.params[j]? = some t → args[j]? = some v → Value.okWide Try.prog W .any base t v := hval0
  have hW' := hW
  obtain ⟨p, q, hA0, hV, rfl, hfz, hnd⟩ := hW
  have hA : DataW.TrodAll enc Try.prog W 0 (fun _ => true) true Try.f8.params.toList args.toList ds p := hA0
  rw [Try.params8] at hA hval hsz
  obtain ⟨v0, vs0, d0, ds0, p0, q0, hargs, rfl, rfl, h0, r0⟩ := trodAll_cons hA
  obtain ⟨v1, vs1, d1, ds1, p1, q1, rfl, rfl, rfl, h1, r1⟩ := trodAll_cons r0
  obtain ⟨rfl, rfl, rfl⟩ := trodAll_nil r1
  obtain rfl : args = #[v0, v1] := by cases args; simp_all
  obtain ⟨rfl, rfl⟩ := trodVars_none hV
  obtain ⟨A0, len0, cap0, rfl⟩ := okWide_slice Try.underlying28 (hval 0 28 v0 rfl rfl)
  have k0 := h0
  have lt0 : ∀ x ∈ p0, x.block < W.heap.size := by obtain ⟨m, hm⟩ := k0; exact DataW.trod_lt m _ _ _ hm
  obtain ⟨ks0, rfl, hr0, hl0⟩ : ∃ ks : List Ky, len0 = ks.length ∧ RdK W A0 ks ∧ ks.length ≤ 9223372036854775807 := by
    obtain ⟨fuel, hf⟩ := h0
    exact keys_open hf
  have k1 := h1
  have lt1 : ∀ x ∈ p1, x.block < W.heap.size := by obtain ⟨m, hm⟩ := k1; exact DataW.trod_lt m _ _ _ hm
  obtain ⟨cs1, rfl, hc1⟩ := okWide_struct Try.underlying35 (hval 1 35 v1 rfl rfl)
  obtain ⟨l1⟩ := cs1
  obtain ⟨fu1, hf1⟩ := h1
  have L1 := open_leaves 6 35 (by kernel_rfl) fu1 _ _ (by simpa [Value.cells] using hc1) hf1
  rw [show leavesOf Try.prog 6 35 = [3, 3, 3, 3, 3, 3, 3, 3, 3, 3, 3, 3, 3, 3, 3] from by kernel_rfl] at L1
  simp only [Value.cells] at L1
  obtain ⟨c1_0, m1_0, rfl, g1_0, L1⟩ := Lv_cons L1
  obtain ⟨c1_1, m1_1, rfl, g1_1, L1⟩ := Lv_cons L1
  obtain ⟨c1_2, m1_2, rfl, g1_2, L1⟩ := Lv_cons L1
  obtain ⟨c1_3, m1_3, rfl, g1_3, L1⟩ := Lv_cons L1
  obtain ⟨c1_4, m1_4, rfl, g1_4, L1⟩ := Lv_cons L1
  obtain ⟨c1_5, m1_5, rfl, g1_5, L1⟩ := Lv_cons L1
  obtain ⟨c1_6, m1_6, rfl, g1_6, L1⟩ := Lv_cons L1
  obtain ⟨c1_7, m1_7, rfl, g1_7, L1⟩ := Lv_cons L1
  obtain ⟨c1_8, m1_8, rfl, g1_8, L1⟩ := Lv_cons L1
  obtain ⟨c1_9, m1_9, rfl, g1_9, L1⟩ := Lv_cons L1
  obtain ⟨c1_10, m1_10, rfl, g1_10, L1⟩ := Lv_cons L1
  obtain ⟨c1_11, m1_11, rfl, g1_11, L1⟩ := Lv_cons L1
  obtain ⟨c1_12, m1_12, rfl, g1_12, L1⟩ := Lv_cons L1
  obtain ⟨c1_13, m1_13, rfl, g1_13, L1⟩ := Lv_cons L1
  obtain ⟨c1_14, m1_14, rfl, g1_14, L1⟩ := Lv_cons L1
  obtain rfl := Lv_nil L1
  obtain ⟨a1_0, rfl, w1_0⟩ := leaf_int Try.underlying3 g1_0
  obtain ⟨a1_1, rfl, w1_1⟩ := leaf_int Try.underlying3 g1_1
  obtain ⟨a1_2, rfl, w1_2⟩ := leaf_int Try.underlying3 g1_2
  obtain ⟨a1_3, rfl, w1_3⟩ := leaf_int Try.underlying3 g1_3
  obtain ⟨a1_4, rfl, w1_4⟩ := leaf_int Try.underlying3 g1_4
  obtain ⟨a1_5, rfl, w1_5⟩ := leaf_int Try.underlying3 g1_5
  obtain ⟨a1_6, rfl, w1_6⟩ := leaf_int Try.underlying3 g1_6
  obtain ⟨a1_7, rfl, w1_7⟩ := leaf_int Try.underlying3 g1_7
  obtain ⟨a1_8, rfl, w1_8⟩ := leaf_int Try.underlying3 g1_8
  obtain ⟨a1_9, rfl, w1_9⟩ := leaf_int Try.underlying3 g1_9
  obtain ⟨a1_10, rfl, w1_10⟩ := leaf_int Try.underlying3 g1_10
  obtain ⟨a1_11, rfl, w1_11⟩ := leaf_int Try.underlying3 g1_11
  obtain ⟨a1_12, rfl, w1_12⟩ := leaf_int Try.underlying3 g1_12
  obtain ⟨a1_13, rfl, w1_13⟩ := leaf_int Try.underlying3 g1_13
  obtain ⟨a1_14, rfl, w1_14⟩ := leaf_int Try.underlying3 g1_14
  clear hA0 hval0 hsz0 hsz
  refine (barcodeBack_any A0 cap0 ks0 a1_0 a1_1 a1_2 a1_3 a1_4 a1_5 a1_6 a1_7 a1_8 a1_9 a1_10 a1_11 a1_12 a1_13 a1_14 W hr0 hl0).mono fun e W' ⟨he, bel⟩ => ?_
  subst he
  exact ⟨_, rfl, _, _, _, [], _, [], hW', trodAll_mk1 (shut_bool Try.underlying4 _), (trodAll_cons_mk (Below.trod laidOut (by kernel_rfl) (of_decide_eq_true (by kernel_rfl)) k0 bel lt0) (trodAll_cons_mk (Below.trod laidOut (by kernel_rfl) (of_decide_eq_true (by kernel_rfl)) k1 bel lt1) trodAll_mk0)), rfl, bel.frame _, fun h => by cases h⟩
theorem over : Rows.barcodeBackRow.holds Try.pinned (OpenSpec.ofChange Rows.barcodeBackSpec) :=
  OpenClaim.holds_of_wide 8 Try.f8 rfl rfl rfl rfl rfl rfl rfl ⟨rfl, rfl, rfl, rfl, rfl⟩ rfl rfl rfl rfl rfl (by kernel_rfl) Try.func8 (by kernel_rfl)
    (of_decide_eq_true (by kernel_rfl)) (by unfold Func.isWrapper; first | (rw [if_pos (by decide +kernel)]; kernel_rfl) | (rw [if_neg (by decide +kernel)]; exact ⟨rfl, rfl⟩))
    (fun os started H enc _ => lifted os started H enc)
theorem proved : Rows.BarcodeBackSaid := over
#print axioms proved
end Go.Proofs.Ytiogogbkgekkdaa.barcodeBack
namespace Go.Proofs.Ytiogogbkgekkdaa
theorem barcodeBack_holds : Rows.BarcodeBackSaid := barcodeBack.proved
end Go.Proofs.Ytiogogbkgekkdaa
