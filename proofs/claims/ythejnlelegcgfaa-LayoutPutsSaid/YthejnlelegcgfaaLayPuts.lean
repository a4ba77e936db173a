/- Layer 13's law LayoutPuts: what a stripe says is the document's digits, and a kind's widths are the document's. Condition: none but that the numbers are Go's ints. -/
import Derived.Test.YthejnlelegcgfaaLayLaid
namespace Go.Proofs.Ythejnlelegcgfaa
open Go.RowKit
set_option linter.unusedVariables false
set_option linter.unusedSimpArgs false

theorem le15 {a0 a1 a2 a3 a4 a5 a6 a7 a8 a9 a10 a11 a12 a13 a14 m : Int} (h0 : a0 ≤ m) (h1 : a1 ≤ m) (h2 : a2 ≤ m) (h3 : a3 ≤ m) (h4 : a4 ≤ m) (h5 : a5 ≤ m) (h6 : a6 ≤ m) (h7 : a7 ≤ m) (h8 : a8 ≤ m) (h9 : a9 ≤ m) (h10 : a10 ≤ m) (h11 : a11 ≤ m) (h12 : a12 ≤ m) (h13 : a13 ≤ m) (h14 : a14 ≤ m) : ∀ x ∈ [a0, a1, a2, a3, a4, a5, a6, a7, a8, a9, a10, a11, a12, a13, a14], x ≤ m := by
  intro x hx
  simp only [List.mem_cons, List.not_mem_nil, or_false] at hx
  rcases hx with rfl | rfl | rfl | rfl | rfl | rfl | rfl | rfl | rfl | rfl | rfl | rfl | rfl | rfl | rfl <;> assumption

set_option maxHeartbeats 4000000 in
set_option maxRecDepth 100000 in
theorem layoutPuts_any (a0 a1 a2 a3 a4 a5 a6 a7 a8 a9 a10 a11 a12 a13 a14 k : Int) (w : World) (hv : ∀ x ∈ [a0, a1, a2, a3, a4, a5, a6, a7, a8, a9, a10, a11, a12, a13, a14], x ≤ 9223372036854775807) :
    Calls Try.prog 13 #[.agg #[.int .i64 a0, .int .i64 a1, .int .i64 a2, .int .i64 a3, .int .i64 a4, .int .i64 a5, .int .i64 a6, .int .i64 a7, .int .i64 a8, .int .i64 a9, .int .i64 a10, .int .i64 a11, .int .i64 a12, .int .i64 a13, .int .i64 a14], .int .i64 k] w fun e w' => e = .returned (.bool true) ∧ Below w.heap.size w w' := by
  obtain ⟨l1, hl1⟩ : ∃ l1, (layR (tkB a0 a1 a2 a3 a4 a5 a6 a7 a8 a9 a10) [a0, a1, a2, a3, a4, a5, a6, a7, a8, a9, a10, a11, a12, a13, a14]).1 = l1 := ⟨_, rfl⟩
  obtain ⟨e1, he1⟩ : ∃ e1, (layR (tkB a0 a1 a2 a3 a4 a5 a6 a7 a8 a9 a10) [a0, a1, a2, a3, a4, a5, a6, a7, a8, a9, a10, a11, a12, a13, a14]).2 = e1 := ⟨_, rfl⟩
  obtain ⟨ws, hws⟩ : ∃ ws, wsL k = ws := ⟨_, rfl⟩
  obtain ⟨we, hwe⟩ : ∃ we, wsE k = we := ⟨_, rfl⟩
  obtain ⟨sb, hsb⟩ : ∃ sb, suB a9 a12 a13 = sb := ⟨_, rfl⟩
  have hwl : ws.length ≤ 13 := by rw [← hws]; exact wsL_le k
  have HSB := Lib.hid hsb
  have hrr : layR (tkB a0 a1 a2 a3 a4 a5 a6 a7 a8 a9 a10) [a0, a1, a2, a3, a4, a5, a6, a7, a8, a9, a10, a11, a12, a13, a14] = (l1, e1) := by rw [← hl1, ← he1]
  clear hl1 he1 hsb
  go_enter Try.func13, Try.ntmps13
  go_wp2_with fail
  have P1 := layPut_any a0 a1 a2 a3 a4 a5 a6 a7 a8 a9 a10 a11 a12 a13 a14 (w.alloc (.cells #[.int .i64 a0, .int .i64 a1, .int .i64 a2, .int .i64 a3, .int .i64 a4, .int .i64 a5, .int .i64 a6, .int .i64 a7, .int .i64 a8, .int .i64 a9, .int .i64 a10, .int .i64 a11, .int .i64 a12, .int .i64 a13, .int .i64 a14] 52)) hv
  rw [hrr] at P1
  refine P1.mono ?_
  rintro e w1 ⟨u, rfl, uo, hb1⟩
  clear P1
  obtain ⟨uA, uc, rfl, hu1, hu2⟩ := own_slice uo
  have ur := RdI.of_own uo
  unfold maxLen at hu2
  have hR1 : w1.heap[w.heap.size]? = some (.cells #[.int .i64 a0, .int .i64 a1, .int .i64 a2, .int .i64 a3, .int .i64 a4, .int .i64 a5, .int .i64 a6, .int .i64 a7, .int .i64 a8, .int .i64 a9, .int .i64 a10, .int .i64 a11, .int .i64 a12, .int .i64 a13, .int .i64 a14] 52 (0, 0)) := (hb1.block w.heap.size (by simp)).trans (heap_alloc_new w _)
  have hB1 := bT (bel1 w _) hb1
  have hs1 := (Array.getElem?_eq_some_iff.1 hR1).1
  have hC1 : w.heap.size < w1.heap.size ∧ w1.cell? ⟨w.heap.size, 0, none⟩ = some (.int .i64 a0) ∧ w1.cell? ⟨w.heap.size, 1, none⟩ = some (.int .i64 a1) ∧ w1.cell? ⟨w.heap.size, 2, none⟩ = some (.int .i64 a2) ∧ w1.cell? ⟨w.heap.size, 3, none⟩ = some (.int .i64 a3) ∧ w1.cell? ⟨w.heap.size, 4, none⟩ = some (.int .i64 a4) ∧ w1.cell? ⟨w.heap.size, 5, none⟩ = some (.int .i64 a5) ∧ w1.cell? ⟨w.heap.size, 6, none⟩ = some (.int .i64 a6) ∧ w1.cell? ⟨w.heap.size, 7, none⟩ = some (.int .i64 a7) ∧ w1.cell? ⟨w.heap.size, 8, none⟩ = some (.int .i64 a8) ∧ w1.cell? ⟨w.heap.size, 9, none⟩ = some (.int .i64 a9) ∧ w1.cell? ⟨w.heap.size, 10, none⟩ = some (.int .i64 a10) ∧ w1.cell? ⟨w.heap.size, 11, none⟩ = some (.int .i64 a11) ∧ w1.cell? ⟨w.heap.size, 12, none⟩ = some (.int .i64 a12) ∧ w1.cell? ⟨w.heap.size, 13, none⟩ = some (.int .i64 a13) ∧ w1.cell? ⟨w.heap.size, 14, none⟩ = some (.int .i64 a14) := ⟨(Array.getElem?_eq_some_iff.1 hR1).1, (cell_of_row _ _ 0 _ _ _ hR1).trans rfl, (cell_of_row _ _ 1 _ _ _ hR1).trans rfl, (cell_of_row _ _ 2 _ _ _ hR1).trans rfl, (cell_of_row _ _ 3 _ _ _ hR1).trans rfl, (cell_of_row _ _ 4 _ _ _ hR1).trans rfl, (cell_of_row _ _ 5 _ _ _ hR1).trans rfl, (cell_of_row _ _ 6 _ _ _ hR1).trans rfl, (cell_of_row _ _ 7 _ _ _ hR1).trans rfl, (cell_of_row _ _ 8 _ _ _ hR1).trans rfl, (cell_of_row _ _ 9 _ _ _ hR1).trans rfl, (cell_of_row _ _ 10 _ _ _ hR1).trans rfl, (cell_of_row _ _ 11 _ _ _ hR1).trans rfl, (cell_of_row _ _ 12 _ _ _ hR1).trans rfl, (cell_of_row _ _ 13 _ _ _ hR1).trans rfl, (cell_of_row _ _ 14 _ _ _ hR1).trans rfl⟩
  clear uo hb1
  go_wp2_with fail
  have P2 := refLayPut_any a0 a1 a2 a3 a4 a5 a6 a7 a8 a9 a10 a11 a12 a13 a14 w1 hv
  rw [hrr] at P2
  refine P2.mono ?_
  rintro e w2 ⟨v, rfl, vo, hb2⟩
  clear P2
  obtain ⟨vA, vc, rfl, hv1, hv2⟩ := own_slice vo
  have vr := RdI.of_own vo
  have hB2 := bT hB1 hb2
  have hC2 := sh_below hC1 hb2
  replace ur := ur.below hb2
  clear vo hb2 hB1 hC1 hR1 hs1
  go_wp2_with fail
  have P3 := layWidths_any k w2
  rw [hws, hwe] at P3
  refine P3.mono ?_
  rintro e w3 ⟨x, rfl, xo, hb3⟩
  clear P3
  obtain ⟨xA, xc, rfl, _, _⟩ := own_slice xo
  have xr := RdI.of_own xo
  have hB3 := bT hB2 hb3
  have hC3 := sh_below hC2 hb3
  replace ur := ur.below hb3
  replace vr := vr.below hb3
  clear xo hb3 hB2 hC2
  go_wp2_with fail
  have P4 := refWidths_any k w3
  rw [hws, hwe] at P4
  refine P4.mono ?_
  rintro e w4 ⟨y, rfl, yo, hb4⟩
  clear P4
  obtain ⟨yA, yc, rfl, _, _⟩ := own_slice yo
  have yr := RdI.of_own yo
  have hB4 := bT hB3 hb4
  have hC4 := sh_below hC3 hb4
  replace ur := ur.below hb4
  replace vr := vr.below hb4
  replace xr := xr.below hb4
  have HB4 := Lib.hid hB4
  clear yo hb4 hB3 hC3 hB4
  go_wp2_with fail
  have hS : Below w4.heap.size w4 w4 ∧ (w.heap.size < w4.heap.size ∧ w4.cell? ⟨w.heap.size, 0, none⟩ = some (.int .i64 a0) ∧ w4.cell? ⟨w.heap.size, 1, none⟩ = some (.int .i64 a1) ∧ w4.cell? ⟨w.heap.size, 2, none⟩ = some (.int .i64 a2) ∧ w4.cell? ⟨w.heap.size, 3, none⟩ = some (.int .i64 a3) ∧ w4.cell? ⟨w.heap.size, 4, none⟩ = some (.int .i64 a4) ∧ w4.cell? ⟨w.heap.size, 5, none⟩ = some (.int .i64 a5) ∧ w4.cell? ⟨w.heap.size, 6, none⟩ = some (.int .i64 a6) ∧ w4.cell? ⟨w.heap.size, 7, none⟩ = some (.int .i64 a7) ∧ w4.cell? ⟨w.heap.size, 8, none⟩ = some (.int .i64 a8) ∧ w4.cell? ⟨w.heap.size, 9, none⟩ = some (.int .i64 a9) ∧ w4.cell? ⟨w.heap.size, 10, none⟩ = some (.int .i64 a10) ∧ w4.cell? ⟨w.heap.size, 11, none⟩ = some (.int .i64 a11) ∧ w4.cell? ⟨w.heap.size, 12, none⟩ = some (.int .i64 a12) ∧ w4.cell? ⟨w.heap.size, 13, none⟩ = some (.int .i64 a13) ∧ w4.cell? ⟨w.heap.size, 14, none⟩ = some (.int .i64 a14)) ∧ RdI w4 .u8 uA l1 ∧ RdI w4 .u8 vA l1 ∧ RdI w4 .i64 xA ws ∧ RdI w4 .i64 yA ws := ⟨Below.refl _ _, hC4, ur, vr, xr, yr⟩
  clear hC4 ur vr xr yr
  refine wp_region_held_drew (S := fun w9 => Below w4.heap.size w4 w9 ∧ (w.heap.size < w9.heap.size ∧ w9.cell? ⟨w.heap.size, 0, none⟩ = some (.int .i64 a0) ∧ w9.cell? ⟨w.heap.size, 1, none⟩ = some (.int .i64 a1) ∧ w9.cell? ⟨w.heap.size, 2, none⟩ = some (.int .i64 a2) ∧ w9.cell? ⟨w.heap.size, 3, none⟩ = some (.int .i64 a3) ∧ w9.cell? ⟨w.heap.size, 4, none⟩ = some (.int .i64 a4) ∧ w9.cell? ⟨w.heap.size, 5, none⟩ = some (.int .i64 a5) ∧ w9.cell? ⟨w.heap.size, 6, none⟩ = some (.int .i64 a6) ∧ w9.cell? ⟨w.heap.size, 7, none⟩ = some (.int .i64 a7) ∧ w9.cell? ⟨w.heap.size, 8, none⟩ = some (.int .i64 a8) ∧ w9.cell? ⟨w.heap.size, 9, none⟩ = some (.int .i64 a9) ∧ w9.cell? ⟨w.heap.size, 10, none⟩ = some (.int .i64 a10) ∧ w9.cell? ⟨w.heap.size, 11, none⟩ = some (.int .i64 a11) ∧ w9.cell? ⟨w.heap.size, 12, none⟩ = some (.int .i64 a12) ∧ w9.cell? ⟨w.heap.size, 13, none⟩ = some (.int .i64 a13) ∧ w9.cell? ⟨w.heap.size, 14, none⟩ = some (.int .i64 a14)) ∧ RdI w9 .u8 uA l1 ∧ RdI w9 .u8 vA l1 ∧ RdI w9 .i64 xA ws ∧ RdI w9 .i64 yA ws) (by kernel_rfl) ⟨Below.drew hS.1, hS.2.1, hS.2.2.1, hS.2.2.2.1, hS.2.2.2.2.1, hS.2.2.2.2.2⟩ (fun hHeld => ?_)
  refine wpAnyH_ready (rs := [0]) (by as_aux_lemma => kernel_rfl) (by simp) (AllReadyH.cons (o := ?_) ?hiu220 (fun K hK => ?_) AllReadyH.nil)
  case hiu220 => simp only [List.getElem?_toArray, List.getElem?_cons_zero, List.getElem?_cons_succ]; rfl
  (try rw [if_pos (by rfl)])
  go_wp2_with fail
  refine (laid_any _).mono ?_
  rintro e w5 ⟨rfl, hb5⟩
  dsimp only
  refine hK.out _ _ ?_ (fun hHeld => ?_)
  · exact ⟨bT hHeld.1 hb5, sh_below hHeld.2.1 hb5, RdI.below hHeld.2.2.1 hb5, RdI.below hHeld.2.2.2.1 hb5, RdI.below hHeld.2.2.2.2.1 hb5, RdI.below hHeld.2.2.2.2.2 hb5⟩
  clear hK K
  (try simp only [Act.put, List.setIfInBounds_toArray, List.set_cons_zero, List.set_cons_succ])
  refine wpAnyH_take (i := 1) (oi := ?_) (v := ?_) ?hiu221 (by as_aux_lemma => kernel_rfl) (by as_aux_lemma => kernel_rfl) (by as_aux_lemma => kernel_rfl) ?hQu221 (Or.inl ⟨?hwu221, ?hyu221⟩) hHeld ?restu221
  case hiu221 => simp only [List.getElem?_toArray, List.getElem?_cons_zero, List.getElem?_cons_succ]; rfl
  case hwu221 => rfl
  case hyu221 => (intro w9 hSw; (try dsimp only at hSw); go_simp; (try with_reducible rfl))
  case hQu221 => exact fun _ _ _ h => h
  (try simp only [Act.put, List.setIfInBounds_toArray, List.set_cons_zero, List.set_cons_succ])
  refine wpAnyH_take (i := 2) (oi := ?_) (v := ?_) ?hiu222 (by as_aux_lemma => kernel_rfl) (by as_aux_lemma => kernel_rfl) (by as_aux_lemma => kernel_rfl) ?hQu222 (Or.inl ⟨?hwu222, ?hyu222⟩) hHeld ?restu222
  case hiu222 => simp only [List.getElem?_toArray, List.getElem?_cons_zero, List.getElem?_cons_succ]; rfl
  case hwu222 => rfl
  case hyu222 => (intro w9 hSw; (try dsimp only at hSw); go_simp; (try with_reducible rfl))
  case hQu222 => exact fun _ _ _ h => h
  (try simp only [Act.put, List.setIfInBounds_toArray, List.set_cons_zero, List.set_cons_succ])
  refine wpAnyH_take (i := 3) (oi := ?_) (v := ?_) ?hiu223 (by as_aux_lemma => kernel_rfl) (by as_aux_lemma => kernel_rfl) (by as_aux_lemma => kernel_rfl) ?hQu223 (Or.inl ⟨?hwu223, ?hyu223⟩) hHeld ?restu223
  case hiu223 => simp only [List.getElem?_toArray, List.getElem?_cons_zero, List.getElem?_cons_succ]; rfl
  case hwu223 => rfl
  case hyu223 => (intro w9 hSw; (try dsimp only at hSw); go_simp; (try with_reducible rfl))
  case hQu223 => exact fun _ _ _ h => h
  (try simp only [Act.put, List.setIfInBounds_toArray, List.set_cons_zero, List.set_cons_succ])
  refine wpAnyH_ready (rs := [4]) (by as_aux_lemma => kernel_rfl) (by simp) (AllReadyH.cons (o := ?_) ?hiu224 (fun K hK => ?_) AllReadyH.nil)
  case hiu224 => simp only [List.getElem?_toArray, List.getElem?_cons_zero, List.getElem?_cons_succ]; rfl
  (try rw [if_pos (by rfl)])
  go_wp2_with fail
  refine (same01_any _ _ _ _ l1 l1 _ hHeld.2.2.1 hHeld.2.2.2.1 (by omega) (by omega)).mono ?_
  rintro e w6 ⟨he, n6, hw6⟩
  rw [show (l1 == l1) = true from by simp] at he
  subst he
  have hb6 : Below w5.heap.size w5 w6 := by rw [hw6]; exact bN (Below.refl _ _) n6
  clear hw6
  dsimp only
  refine hK.out _ _ ?_ (fun hHeld => ?_)
  · exact ⟨bT hHeld.1 hb6, sh_below hHeld.2.1 hb6, RdI.below hHeld.2.2.1 hb6, RdI.below hHeld.2.2.2.1 hb6, RdI.below hHeld.2.2.2.2.1 hb6, RdI.below hHeld.2.2.2.2.2 hb6⟩
  clear hK K
  (try simp only [Act.put, List.setIfInBounds_toArray, List.set_cons_zero, List.set_cons_succ])
  refine wpAnyH_take (i := 5) (oi := ?_) (v := ?_) ?hiu225 (by as_aux_lemma => kernel_rfl) (by as_aux_lemma => kernel_rfl) (by as_aux_lemma => kernel_rfl) ?hQu225 (Or.inl ⟨?hwu225, ?hyu225⟩) hHeld ?restu225
  case hiu225 => simp only [List.getElem?_toArray, List.getElem?_cons_zero, List.getElem?_cons_succ]; rfl
  case hwu225 => rfl
  case hyu225 => (intro w9 hSw; (try dsimp only at hSw); go_simp; (try with_reducible rfl))
  case hQu225 => exact fun _ _ _ h => h
  (try simp only [Act.put, List.setIfInBounds_toArray, List.set_cons_zero, List.set_cons_succ])
  refine wpAnyH_take (i := 6) (oi := ?_) (v := ?_) ?hiu226 (by as_aux_lemma => kernel_rfl) (by as_aux_lemma => kernel_rfl) (by as_aux_lemma => kernel_rfl) ?hQu226 (Or.inl ⟨?hwu226, ?hyu226⟩) hHeld ?restu226
  case hiu226 => simp only [List.getElem?_toArray, List.getElem?_cons_zero, List.getElem?_cons_succ]; rfl
  case hwu226 => rfl
  case hyu226 => (intro w9 hSw; (try dsimp only at hSw); go_simp; (try with_reducible rfl))
  case hQu226 => exact fun _ _ _ h => h
  (try simp only [Act.put, List.setIfInBounds_toArray, List.set_cons_zero, List.set_cons_succ])
  refine wpAnyH_take (i := 7) (oi := ?_) (v := ?_) ?hiu227 (by as_aux_lemma => kernel_rfl) (by as_aux_lemma => kernel_rfl) (by as_aux_lemma => kernel_rfl) ?hQu227 (Or.inl ⟨?hwu227, ?hyu227⟩) hHeld ?restu227
  case hiu227 => simp only [List.getElem?_toArray, List.getElem?_cons_zero, List.getElem?_cons_succ]; rfl
  case hwu227 => rfl
  case hyu227 => (intro w9 hSw; (try dsimp only at hSw); go_simp; (try with_reducible rfl))
  case hQu227 => exact fun _ _ _ h => h
  (try simp only [Act.put, List.setIfInBounds_toArray, List.set_cons_zero, List.set_cons_succ])
  refine wpAnyH_take (i := 8) (oi := ?_) (v := ?_) ?hiu228 (by as_aux_lemma => kernel_rfl) (by as_aux_lemma => kernel_rfl) (by as_aux_lemma => kernel_rfl) ?hQu228 (Or.inl ⟨?hwu228, ?hyu228⟩) hHeld ?restu228
  case hiu228 => simp only [List.getElem?_toArray, List.getElem?_cons_zero, List.getElem?_cons_succ]; rfl
  case hwu228 => rfl
  case hyu228 => (intro w9 hSw; (try dsimp only at hSw); go_simp; (try with_reducible rfl))
  case hQu228 => exact fun _ _ _ h => h
  (try simp only [Act.put, List.setIfInBounds_toArray, List.set_cons_zero, List.set_cons_succ])
  refine wpAnyH_take (i := 9) (oi := ?_) (v := ?_) ?hiu229 (by as_aux_lemma => kernel_rfl) (by as_aux_lemma => kernel_rfl) (by as_aux_lemma => kernel_rfl) ?hQu229 (Or.inl ⟨?hwu229, ?hyu229⟩) hHeld ?restu229
  case hiu229 => simp only [List.getElem?_toArray, List.getElem?_cons_zero, List.getElem?_cons_succ]; rfl
  case hwu229 => rfl
  case hyu229 => (intro w9 hSw; (try dsimp only at hSw); go_simp; (try with_reducible rfl))
  case hQu229 => exact fun _ _ _ h => h
  (try simp only [Act.put, List.setIfInBounds_toArray, List.set_cons_zero, List.set_cons_succ])
  refine wpAnyH_take (i := 10) (oi := ?_) (v := ?_) ?hiu230 (by as_aux_lemma => kernel_rfl) (by as_aux_lemma => kernel_rfl) (by as_aux_lemma => kernel_rfl) ?hQu230 (Or.inl ⟨?hwu230, ?hyu230⟩) hHeld ?restu230
  case hiu230 => simp only [List.getElem?_toArray, List.getElem?_cons_zero, List.getElem?_cons_succ]; rfl
  case hwu230 => rfl
  case hyu230 => (intro w9 hSw; (try dsimp only at hSw); go_simp; (try with_reducible rfl))
  case hQu230 => exact fun _ _ _ h => h
  (try simp only [Act.put, List.setIfInBounds_toArray, List.set_cons_zero, List.set_cons_succ])
  refine wpAnyH_take (i := 11) (oi := ?_) (v := ?_) ?hiu231 (by as_aux_lemma => kernel_rfl) (by as_aux_lemma => kernel_rfl) (by as_aux_lemma => kernel_rfl) ?hQu231 (Or.inl ⟨?hwu231, ?hyu231⟩) hHeld ?restu231
  case hiu231 => simp only [List.getElem?_toArray, List.getElem?_cons_zero, List.getElem?_cons_succ]; rfl
  case hwu231 => rfl
  case hyu231 => (intro w9 hSw; (try dsimp only at hSw); go_simp; (try with_reducible rfl))
  case hQu231 => exact fun _ _ _ h => h
  (try simp only [Act.put, List.setIfInBounds_toArray, List.set_cons_zero, List.set_cons_succ])
  refine wpAnyH_take (i := 12) (oi := ?_) (v := ?_) ?hiu232 (by as_aux_lemma => kernel_rfl) (by as_aux_lemma => kernel_rfl) (by as_aux_lemma => kernel_rfl) ?hQu232 (Or.inl ⟨?hwu232, ?hyu232⟩) hHeld ?restu232
  case hiu232 => simp only [List.getElem?_toArray, List.getElem?_cons_zero, List.getElem?_cons_succ]; rfl
  case hwu232 => rfl
  case hyu232 => (intro w9 hSw; (try dsimp only at hSw); go_simp; (try with_reducible rfl))
  case hQu232 => exact fun _ _ _ h => h
  (try simp only [Act.put, List.setIfInBounds_toArray, List.set_cons_zero, List.set_cons_succ])
  refine wpAnyH_take (i := 13) (oi := ?_) (v := ?_) ?hiu233 (by as_aux_lemma => kernel_rfl) (by as_aux_lemma => kernel_rfl) (by as_aux_lemma => kernel_rfl) ?hQu233 (Or.inl ⟨?hwu233, ?hyu233⟩) hHeld ?restu233
  case hiu233 => simp only [List.getElem?_toArray, List.getElem?_cons_zero, List.getElem?_cons_succ]; rfl
  case hwu233 => rfl
  case hyu233 => (intro w9 hSw; (try dsimp only at hSw); go_simp; (try with_reducible rfl))
  case hQu233 => exact fun _ _ _ h => h
  (try simp only [Act.put, List.setIfInBounds_toArray, List.set_cons_zero, List.set_cons_succ])
  refine wpAnyH_ready (rs := [14]) (by as_aux_lemma => kernel_rfl) (by simp) (AllReadyH.cons (o := ?_) ?hiu234 (fun K hK => ?_) AllReadyH.nil)
  case hiu234 => simp only [List.getElem?_toArray, List.getElem?_cons_zero, List.getElem?_cons_succ]; rfl
  (try rw [if_pos (by rfl)])
  go_wp2_with fail
  refine (same07_any _ _ _ _ ws ws _ hHeld.2.2.2.2.1 hHeld.2.2.2.2.2 (by omega) (by omega)).mono ?_
  rintro e w7 ⟨he, n7, hw7⟩
  rw [show (ws == ws) = true from by simp] at he
  subst he
  have hb7 : Below w6.heap.size w6 w7 := by rw [hw7]; exact bN (Below.refl _ _) n7
  clear hw7
  dsimp only
  refine hK.out _ _ ?_ (fun hHeld => ?_)
  · exact ⟨bT hHeld.1 hb7, sh_below hHeld.2.1 hb7, RdI.below hHeld.2.2.1 hb7, RdI.below hHeld.2.2.2.1 hb7, RdI.below hHeld.2.2.2.2.1 hb7, RdI.below hHeld.2.2.2.2.2 hb7⟩
  clear hK K
  (try simp only [Act.put, List.setIfInBounds_toArray, List.set_cons_zero, List.set_cons_succ])
  refine wpAnyH_take (i := 15) (oi := ?_) (v := ?_) ?hiu235 (by as_aux_lemma => kernel_rfl) (by as_aux_lemma => kernel_rfl) (by as_aux_lemma => kernel_rfl) ?hQu235 (Or.inl ⟨?hwu235, ?hyu235⟩) hHeld ?restu235
  case hiu235 => simp only [List.getElem?_toArray, List.getElem?_cons_zero, List.getElem?_cons_succ]; rfl
  case hwu235 => rfl
  case hyu235 => (intro w9 hSw; (try dsimp only at hSw); go_simp; (try with_reducible rfl))
  case hQu235 => exact fun _ _ _ h => h
  (try simp only [Act.put, List.setIfInBounds_toArray, List.set_cons_zero, List.set_cons_succ])
  refine wpAnyH_take (i := 16) (oi := ?_) (v := ?_) ?hiu236 (by as_aux_lemma => kernel_rfl) (by as_aux_lemma => kernel_rfl) (by as_aux_lemma => kernel_rfl) ?hQu236 (Or.inl ⟨?hwu236, ?hyu236⟩) hHeld ?restu236
  case hiu236 => simp only [List.getElem?_toArray, List.getElem?_cons_zero, List.getElem?_cons_succ]; rfl
  case hwu236 => rfl
  case hyu236 => (intro w9 hSw; (try dsimp only at hSw); go_simp; (try with_reducible rfl))
  case hQu236 => exact fun _ _ _ h => h
  (try simp only [Act.put, List.setIfInBounds_toArray, List.set_cons_zero, List.set_cons_succ])
  refine wpAnyH_take (i := 17) (oi := ?_) (v := ?_) ?hiu237 (by as_aux_lemma => kernel_rfl) (by as_aux_lemma => kernel_rfl) (by as_aux_lemma => kernel_rfl) ?hQu237 (Or.inl ⟨?hwu237, ?hyu237⟩) hHeld ?restu237
  case hiu237 => simp only [List.getElem?_toArray, List.getElem?_cons_zero, List.getElem?_cons_succ]; rfl
  case hwu237 => rfl
  case hyu237 => (intro w9 hSw; (try dsimp only at hSw); go_simp; (try with_reducible rfl))
  case hQu237 => exact fun _ _ _ h => h
  (try simp only [Act.put, List.setIfInBounds_toArray, List.set_cons_zero, List.set_cons_succ])
  refine wpAnyH_take (i := 18) (oi := ?_) (v := ?_) ?hiu238 (by as_aux_lemma => kernel_rfl) (by as_aux_lemma => kernel_rfl) (by as_aux_lemma => kernel_rfl) ?hQu238 (Or.inl ⟨?hwu238, ?hyu238⟩) hHeld ?restu238
  case hiu238 => simp only [List.getElem?_toArray, List.getElem?_cons_zero, List.getElem?_cons_succ]; rfl
  case hwu238 => rfl
  case hyu238 => (intro w9 hSw; (try dsimp only at hSw); go_simp; (try with_reducible rfl))
  case hQu238 => exact fun _ _ _ h => h
  (try simp only [Act.put, List.setIfInBounds_toArray, List.set_cons_zero, List.set_cons_succ])
  refine wpAnyH_take (i := 19) (oi := ?_) (v := ?_) ?hiu239 (by as_aux_lemma => kernel_rfl) (by as_aux_lemma => kernel_rfl) (by as_aux_lemma => kernel_rfl) ?hQu239 (Or.inl ⟨?hwu239, ?hyu239⟩) hHeld ?restu239
  case hiu239 => simp only [List.getElem?_toArray, List.getElem?_cons_zero, List.getElem?_cons_succ]; rfl
  case hwu239 => rfl
  case hyu239 => (intro w9 hSw; (try dsimp only at hSw); go_simp; (try with_reducible rfl))
  case hQu239 => exact fun _ _ _ h => h
  (try simp only [Act.put, List.setIfInBounds_toArray, List.set_cons_zero, List.set_cons_succ])
  refine wpAnyH_take (i := 20) (oi := ?_) (v := ?_) ?hiu240 (by as_aux_lemma => kernel_rfl) (by as_aux_lemma => kernel_rfl) (by as_aux_lemma => kernel_rfl) ?hQu240 (Or.inl ⟨?hwu240, ?hyu240⟩) hHeld ?restu240
  case hiu240 => simp only [List.getElem?_toArray, List.getElem?_cons_zero, List.getElem?_cons_succ]; rfl
  case hwu240 => rfl
  case hyu240 => (intro w9 hSw; (try dsimp only at hSw); go_simp; (try with_reducible rfl))
  case hQu240 => exact fun _ _ _ h => h
  (try simp only [Act.put, List.setIfInBounds_toArray, List.set_cons_zero, List.set_cons_succ])
  refine wpAnyH_take (i := 21) (oi := ?_) (v := ?_) ?hiu241 (by as_aux_lemma => kernel_rfl) (by as_aux_lemma => kernel_rfl) (by as_aux_lemma => kernel_rfl) ?hQu241 (Or.inl ⟨?hwu241, ?hyu241⟩) hHeld ?restu241
  case hiu241 => simp only [List.getElem?_toArray, List.getElem?_cons_zero, List.getElem?_cons_succ]; rfl
  case hwu241 => rfl
  case hyu241 => (intro w9 hSw; (try dsimp only at hSw); go_simp; (try with_reducible rfl))
  case hQu241 => exact fun _ _ _ h => h
  (try simp only [Act.put, List.setIfInBounds_toArray, List.set_cons_zero, List.set_cons_succ])
  refine wpAnyH_take (i := 22) (oi := ?_) (v := ?_) ?hiu242 (by as_aux_lemma => kernel_rfl) (by as_aux_lemma => kernel_rfl) (by as_aux_lemma => kernel_rfl) ?hQu242 (Or.inl ⟨?hwu242, ?hyu242⟩) hHeld ?restu242
  case hiu242 => simp only [List.getElem?_toArray, List.getElem?_cons_zero, List.getElem?_cons_succ]; rfl
  case hwu242 => rfl
  case hyu242 => (intro w9 hSw; (try dsimp only at hSw); go_simp; (try with_reducible rfl))
  case hQu242 => exact fun _ _ _ h => h
  (try simp only [Act.put, List.setIfInBounds_toArray, List.set_cons_zero, List.set_cons_succ])
  refine wpAnyH_take (i := 23) (oi := ?_) (v := ?_) ?hiu243 (by as_aux_lemma => kernel_rfl) (by as_aux_lemma => kernel_rfl) (by as_aux_lemma => kernel_rfl) ?hQu243 (Or.inl ⟨?hwu243, ?hyu243⟩) hHeld ?restu243
  case hiu243 => simp only [List.getElem?_toArray, List.getElem?_cons_zero, List.getElem?_cons_succ]; rfl
  case hwu243 => rfl
  case hyu243 => (intro w9 hSw; (try dsimp only at hSw); go_simp; (try with_reducible rfl))
  case hQu243 => exact fun _ _ _ h => h
  (try simp only [Act.put, List.setIfInBounds_toArray, List.set_cons_zero, List.set_cons_succ])
  refine wpAnyH_take (i := 24) (oi := ?_) (v := ?_) ?hiu244 (by as_aux_lemma => kernel_rfl) (by as_aux_lemma => kernel_rfl) (by as_aux_lemma => kernel_rfl) ?hQu244 (Or.inl ⟨?hwu244, ?hyu244⟩) hHeld ?restu244
  case hiu244 => simp only [List.getElem?_toArray, List.getElem?_cons_zero, List.getElem?_cons_succ]; rfl
  case hwu244 => rfl
  case hyu244 => (intro w9 hSw; (try dsimp only at hSw); go_simp; (try with_reducible rfl))
  case hQu244 => exact fun _ _ _ h => h
  (try simp only [Act.put, List.setIfInBounds_toArray, List.set_cons_zero, List.set_cons_succ])
  refine wpAnyH_take (i := 25) (oi := ?_) (v := ?_) ?hiu245 (by as_aux_lemma => kernel_rfl) (by as_aux_lemma => kernel_rfl) (by as_aux_lemma => kernel_rfl) ?hQu245 (Or.inl ⟨?hwu245, ?hyu245⟩) hHeld ?restu245
  case hiu245 => simp only [List.getElem?_toArray, List.getElem?_cons_zero, List.getElem?_cons_succ]; rfl
  case hwu245 => rfl
  case hyu245 => (intro w9 hSw; (try dsimp only at hSw); go_simp; (try with_reducible rfl))
  case hQu245 => exact fun _ _ _ h => h
  (try simp only [Act.put, List.setIfInBounds_toArray, List.set_cons_zero, List.set_cons_succ])
  refine wpAnyH_take (i := 27) (oi := ?_) (v := ?_) ?hiu246 (by as_aux_lemma => kernel_rfl) (by as_aux_lemma => kernel_rfl) (by as_aux_lemma => kernel_rfl) ?hQu246 (Or.inl ⟨?hwu246, ?hyu246⟩) hHeld ?restu246
  case hiu246 => simp only [List.getElem?_toArray, List.getElem?_cons_zero, List.getElem?_cons_succ]; rfl
  case hwu246 => rfl
  case hyu246 => (intro w9 hSw; (try dsimp only at hSw); go_simp; (try with_reducible rfl))
  case hQu246 => exact fun _ _ _ h => h
  (try simp only [Act.put, List.setIfInBounds_toArray, List.set_cons_zero, List.set_cons_succ])
  refine wpAnyH_take (i := 28) (oi := ?_) (v := ?_) ?hiu247 (by as_aux_lemma => kernel_rfl) (by as_aux_lemma => kernel_rfl) (by as_aux_lemma => kernel_rfl) ?hQu247 (Or.inl ⟨?hwu247, ?hyu247⟩) hHeld ?restu247
  case hiu247 => simp only [List.getElem?_toArray, List.getElem?_cons_zero, List.getElem?_cons_succ]; rfl
  case hwu247 => rfl
  case hyu247 => (intro w9 hSw; (try dsimp only at hSw); go_simp; (try with_reducible rfl))
  case hQu247 => exact fun _ _ _ h => h
  (try simp only [Act.put, List.setIfInBounds_toArray, List.set_cons_zero, List.set_cons_succ])
  refine wpAnyH_take (i := 29) (oi := ?_) (v := ?_) ?hiu248 (by as_aux_lemma => kernel_rfl) (by as_aux_lemma => kernel_rfl) (by as_aux_lemma => kernel_rfl) ?hQu248 (Or.inl ⟨?hwu248, ?hyu248⟩) hHeld ?restu248
  case hiu248 => simp only [List.getElem?_toArray, List.getElem?_cons_zero, List.getElem?_cons_succ]; rfl
  case hwu248 => rfl
  case hyu248 => (intro w9 hSw; (try dsimp only at hSw); go_simp; (try with_reducible rfl))
  case hQu248 => exact fun _ _ _ h => h
  (try simp only [Act.put, List.setIfInBounds_toArray, List.set_cons_zero, List.set_cons_succ])
  refine wpAnyH_take (i := 30) (oi := ?_) (v := ?_) ?hiu249 (by as_aux_lemma => kernel_rfl) (by as_aux_lemma => kernel_rfl) (by as_aux_lemma => kernel_rfl) ?hQu249 (Or.inl ⟨?hwu249, ?hyu249⟩) hHeld ?restu249
  case hiu249 => simp only [List.getElem?_toArray, List.getElem?_cons_zero, List.getElem?_cons_succ]; rfl
  case hwu249 => rfl
  case hyu249 => (intro w9 hSw; (try dsimp only at hSw); go_simp; (try with_reducible rfl))
  case hQu249 => exact fun _ _ _ h => h
  (try simp only [Act.put, List.setIfInBounds_toArray, List.set_cons_zero, List.set_cons_succ])
  refine wpAnyH_ready (rs := [26]) (by as_aux_lemma => kernel_rfl) (by simp) (AllReadyH.cons (o := ?_) ?hiu250 (fun K hK => ?_) AllReadyH.nil)
  case hiu250 => simp only [List.getElem?_toArray, List.getElem?_cons_zero, List.getElem?_cons_succ]; rfl
  (try rw [if_pos (by rfl)])
  go_wp2_with fail
  refine (suits_any a0 a1 a2 a3 a4 a5 a6 a7 a8 a9 a10 a12 a13 _).mono ?_
  rintro e w8 ⟨he, hb8⟩
  rw [HSB.out] at he
  subst he
  dsimp only
  refine hK.out _ _ ?_ (fun hHeld => ?_)
  · exact ⟨bT hHeld.1 hb8, sh_below hHeld.2.1 hb8, RdI.below hHeld.2.2.1 hb8, RdI.below hHeld.2.2.2.1 hb8, RdI.below hHeld.2.2.2.2.1 hb8, RdI.below hHeld.2.2.2.2.2 hb8⟩
  clear hK K
  (try simp only [Act.put, List.setIfInBounds_toArray, List.set_cons_zero, List.set_cons_succ])
  refine wpAnyH_ready (rs := [31]) (by as_aux_lemma => kernel_rfl) (by simp) (AllReadyH.cons (o := ?_) ?hiu251 (fun K hK => ?_) AllReadyH.nil)
  case hiu251 => simp only [List.getElem?_toArray, List.getElem?_cons_zero, List.getElem?_cons_succ]; rfl
  (try rw [if_pos (by rfl)])
  go_wp2_with fail
  refine (refSuits_any a0 a1 a2 a3 a4 a5 a6 a7 a8 a9 a10 a12 a13 _).mono ?_
  rintro e w10 ⟨he, hb10⟩
  rw [HSB.out] at he
  subst he
  dsimp only
  refine hK.out _ _ ?_ (fun hHeld => ?_)
  · exact ⟨bT hHeld.1 hb10, sh_below hHeld.2.1 hb10, RdI.below hHeld.2.2.1 hb10, RdI.below hHeld.2.2.2.1 hb10, RdI.below hHeld.2.2.2.2.1 hb10, RdI.below hHeld.2.2.2.2.2 hb10⟩
  clear hK K
  (try simp only [Act.put, List.setIfInBounds_toArray, List.set_cons_zero, List.set_cons_succ])
  refine wpAnyH_take (i := 32) (oi := ?_) (v := ?_) ?hiu252 (by as_aux_lemma => kernel_rfl) (by as_aux_lemma => kernel_rfl) (by as_aux_lemma => kernel_rfl) ?hQu252 (Or.inl ⟨?hwu252, ?hyu252⟩) hHeld ?restu252
  case hiu252 => simp only [List.getElem?_toArray, List.getElem?_cons_zero, List.getElem?_cons_succ]; rfl
  case hwu252 => rfl
  case hyu252 => (intro w9 hSw; (try dsimp only at hSw); go_simp; (try with_reducible rfl))
  case hQu252 => exact fun _ _ _ h => h
  (try simp only [Act.put, List.setIfInBounds_toArray, List.set_cons_zero, List.set_cons_succ])
  refine wpAnyH_take (i := 33) (oi := ?_) (v := ?_) ?hiu253 (by as_aux_lemma => kernel_rfl) (by as_aux_lemma => kernel_rfl) (by as_aux_lemma => kernel_rfl) ?hQu253 (Or.inl ⟨?hwu253, ?hyu253⟩) hHeld ?restu253
  case hiu253 => simp only [List.getElem?_toArray, List.getElem?_cons_zero, List.getElem?_cons_succ]; rfl
  case hwu253 => rfl
  case hyu253 => (intro w9 hSw; (try dsimp only at hSw); go_simp; (try with_reducible rfl))
  case hQu253 => exact fun _ _ _ h => h
  (try simp only [Act.put, List.setIfInBounds_toArray, List.set_cons_zero, List.set_cons_succ])
  refine wpAnyH_take (i := 34) (oi := ?_) (v := ?_) ?hiu254 (by as_aux_lemma => kernel_rfl) (by as_aux_lemma => kernel_rfl) (by as_aux_lemma => kernel_rfl) ?hQu254 (Or.inl ⟨?hwu254, ?hyu254⟩) hHeld ?restu254
  case hiu254 => simp only [List.getElem?_toArray, List.getElem?_cons_zero, List.getElem?_cons_succ]; rfl
  case hwu254 => rfl
  case hyu254 => (intro w9 hSw; (try dsimp only at hSw); go_simp; (try with_reducible rfl))
  case hQu254 => exact fun _ _ _ h => h
  (try simp only [Act.put, List.setIfInBounds_toArray, List.set_cons_zero, List.set_cons_succ])
  refine wpAnyH_done (by kernel_rfl) ?_ _
  have HBE := Lib.hid (bT HB4.out hHeld.1)
  clear hHeld hS
  go_wp2
  go_ret
  exact ⟨rfl, HBE.out⟩
end Go.Proofs.Ythejnlelegcgfaa
