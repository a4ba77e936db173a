/- Layer 13's law LayoutJourney, where both come through. -/
import Derived.Test.YthejnlelegcgfaaLayJoYes
namespace Go.Proofs.Ythejnlelegcgfaa
open Go.RowKit
set_option linter.unusedVariables false
set_option linter.unusedSimpArgs false
set_option maxHeartbeats 4000000 in
set_option maxRecDepth 100000 in
theorem layoutJourney_yes21 (a0 a1 a2 a3 a4 a5 a6 a7 a8 a9 a10 a11 a12 a13 a14 b c : Int) (l1 l2 : List Int) (e1 e2 : Int) (w : World) (hv : ∀ x ∈ [a0, a1, a2, a3, a4, a5, a6, a7, a8, a9, a10, a11, a12, a13, a14], x ≤ 9223372036854775807) (hv2 : ∀ x ∈ [a0, a1, a2, a3, a4, a5, a6, a7, a8, a9, a10, a11, b, c, a14], x ≤ 9223372036854775807)
    (hr1 : layR (tkB a0 a1 a2 a3 a4 a5 a6 a7 a8 a9 a10) [a0, a1, a2, a3, a4, a5, a6, a7, a8, a9, a10, a11, a12, a13, a14] = (l1, 0)) (hr2 : layR (tkB a0 a1 a2 a3 a4 a5 a6 a7 a8 a9 a10) [a0, a1, a2, a3, a4, a5, a6, a7, a8, a9, a10, a11, b, c, a14] = (l2, 0)) (x1 y1 z1 t1 : Int) (hp1 : l1.length = 27) (hp2 : l2.length = 27) (ht : l1.take 21 = l2.take 21) (hdr : l1.drop 25 = l2.drop 25) (hx : l2.getD 21 0 = x1) (hy : l2.getD 22 0 = y1) (hz : l2.getD 23 0 = z1) (ht1 : l2.getD 24 0 = t1) (hx0 : 0 ≤ x1 ∧ x1 ≤ 9) (hy0 : 0 ≤ y1 ∧ y1 ≤ 9) (hz0 : 0 ≤ z1 ∧ z1 ≤ 9) (ht0 : 0 ≤ t1 ∧ t1 ≤ 9) (hb : x1 * 10 + y1 = b) (hc : z1 * 10 + t1 = c) :
    Calls Try.prog 17 #[.agg #[.int .i64 a0, .int .i64 a1, .int .i64 a2, .int .i64 a3, .int .i64 a4, .int .i64 a5, .int .i64 a6, .int .i64 a7, .int .i64 a8, .int .i64 a9, .int .i64 a10, .int .i64 a11, .int .i64 a12, .int .i64 a13, .int .i64 a14], .agg #[.int .i64 b, .int .i64 c]] w fun e w' => e = .returned (.bool true) ∧ Below w.heap.size w w' := by
  have HP1 := Lib.hid hp1
  have HP2 := Lib.hid hp2
  have HT := Lib.hid ht
  have HDR := Lib.hid hdr
  have HX := Lib.hid hx
  have HY := Lib.hid hy
  have HZ := Lib.hid hz
  have HT1 := Lib.hid ht1
  have HBC := Lib.hid hb
  have HCC := Lib.hid hc
  clear hp1 hp2 ht hdr hx hy hz ht1 hb hc
  go_enter Try.func17, Try.ntmps17
  go_wp2_with fail
  obtain ⟨w0, hw0⟩ : ∃ w0, (w.alloc (.cells #[.int .i64 a0, .int .i64 a1, .int .i64 a2, .int .i64 a3, .int .i64 a4, .int .i64 a5, .int .i64 a6, .int .i64 a7, .int .i64 a8, .int .i64 a9, .int .i64 a10, .int .i64 a11, .int .i64 a12, .int .i64 a13, .int .i64 a14] 52)).alloc (.cells #[.int .i64 b, .int .i64 c] 50) = w0 := ⟨_, rfl⟩
  have hA0 : w0.heap[w.heap.size]? = some (.cells #[.int .i64 a0, .int .i64 a1, .int .i64 a2, .int .i64 a3, .int .i64 a4, .int .i64 a5, .int .i64 a6, .int .i64 a7, .int .i64 a8, .int .i64 a9, .int .i64 a10, .int .i64 a11, .int .i64 a12, .int .i64 a13, .int .i64 a14] 52 (0, 0)) := by rw [← hw0]; exact (Below.heap_alloc _ _ _ (by simp)).trans (heap_alloc_new w _)
  have hD0 : w0.heap[w.heap.size + 1]? = some (.cells #[.int .i64 b, .int .i64 c] 50 (0, 0)) := by rw [← hw0]; have h := heap_alloc_new (w.alloc (.cells #[.int .i64 a0, .int .i64 a1, .int .i64 a2, .int .i64 a3, .int .i64 a4, .int .i64 a5, .int .i64 a6, .int .i64 a7, .int .i64 a8, .int .i64 a9, .int .i64 a10, .int .i64 a11, .int .i64 a12, .int .i64 a13, .int .i64 a14] 52)) (.cells #[.int .i64 b, .int .i64 c] 50); simpa using h
  have hB0 : Below w.heap.size w w0 := by rw [← hw0]; exact bA (bel1 w _) _
  rw [hw0]
  have HW0 := Lib.hid hw0
  have hsA := (Array.getElem?_eq_some_iff.1 hA0).1
  have hsD := (Array.getElem?_eq_some_iff.1 hD0).1
  clear hw0
  have P1 := layPut_any a0 a1 a2 a3 a4 a5 a6 a7 a8 a9 a10 a11 a12 a13 a14 w0 hv
  rw [hr1] at P1
  refine P1.mono ?_
  rintro e w1 ⟨u, rfl, uo, hb1⟩
  clear P1
  obtain ⟨uA, uc, rfl, hu1, hu2⟩ := own_slice uo
  have ur := RdI.of_own uo
  unfold maxLen at hu2
  have hune : ∀ ad, uA = some ad → ad.block ≠ w.heap.size := by intro ad e; have := own_ge uo ad.block (by rw [e]; rfl); omega
  have hA1 := (hb1.block _ hsA).trans hA0
  have hD1 := (hb1.block _ hsD).trans hD0
  have HB1 := Lib.hid (bT hB0 hb1)
  have hX1 : w.heap.size < w1.heap.size ∧ w1.cell? ⟨w.heap.size, 0, none⟩ = some (.int .i64 a0) ∧ w1.cell? ⟨w.heap.size, 1, none⟩ = some (.int .i64 a1) ∧ w1.cell? ⟨w.heap.size, 2, none⟩ = some (.int .i64 a2) ∧ w1.cell? ⟨w.heap.size, 3, none⟩ = some (.int .i64 a3) ∧ w1.cell? ⟨w.heap.size, 4, none⟩ = some (.int .i64 a4) ∧ w1.cell? ⟨w.heap.size, 5, none⟩ = some (.int .i64 a5) ∧ w1.cell? ⟨w.heap.size, 6, none⟩ = some (.int .i64 a6) ∧ w1.cell? ⟨w.heap.size, 7, none⟩ = some (.int .i64 a7) ∧ w1.cell? ⟨w.heap.size, 8, none⟩ = some (.int .i64 a8) ∧ w1.cell? ⟨w.heap.size, 9, none⟩ = some (.int .i64 a9) ∧ w1.cell? ⟨w.heap.size, 10, none⟩ = some (.int .i64 a10) ∧ w1.cell? ⟨w.heap.size, 11, none⟩ = some (.int .i64 a11) ∧ w1.cell? ⟨w.heap.size, 12, none⟩ = some (.int .i64 a12) ∧ w1.cell? ⟨w.heap.size, 13, none⟩ = some (.int .i64 a13) ∧ w1.cell? ⟨w.heap.size, 14, none⟩ = some (.int .i64 a14) := ⟨(Array.getElem?_eq_some_iff.1 hA1).1, (cell_of_row _ _ 0 _ _ _ hA1).trans rfl, (cell_of_row _ _ 1 _ _ _ hA1).trans rfl, (cell_of_row _ _ 2 _ _ _ hA1).trans rfl, (cell_of_row _ _ 3 _ _ _ hA1).trans rfl, (cell_of_row _ _ 4 _ _ _ hA1).trans rfl, (cell_of_row _ _ 5 _ _ _ hA1).trans rfl, (cell_of_row _ _ 6 _ _ _ hA1).trans rfl, (cell_of_row _ _ 7 _ _ _ hA1).trans rfl, (cell_of_row _ _ 8 _ _ _ hA1).trans rfl, (cell_of_row _ _ 9 _ _ _ hA1).trans rfl, (cell_of_row _ _ 10 _ _ _ hA1).trans rfl, (cell_of_row _ _ 11 _ _ _ hA1).trans rfl, (cell_of_row _ _ 12 _ _ _ hA1).trans rfl, (cell_of_row _ _ 13 _ _ _ hA1).trans rfl, (cell_of_row _ _ 14 _ _ _ hA1).trans rfl⟩
  have hf1 : ∀ o, w1.frozen? ⟨w.heap.size, o, none⟩ = false := by intro o; simp [World.frozen?, hA1]
  have hj0 : w1.cell? ⟨w.heap.size + 1, 0, none⟩ = some (.int .i64 b) := (cell_of_row _ _ 0 _ _ _ hD1).trans rfl
  have hj1 : w1.cell? ⟨w.heap.size + 1, 1, none⟩ = some (.int .i64 c) := (cell_of_row _ _ 1 _ _ _ hD1).trans rfl
  have HA1 := Lib.hid hA1
  have HD1 := Lib.hid hD1
  clear uo hb1 hA0 hD0 hB0 hA1 hD1 hsA hsD
  go_wp2_with fail
  obtain ⟨w2, hw2⟩ : ∃ w2, (w1.setCell ⟨w.heap.size, 12, none⟩ (.int .i64 b)).setCell ⟨w.heap.size, 13, none⟩ (.int .i64 c) = w2 := ⟨_, rfl⟩
  have hA2 : w2.heap[w.heap.size]? = some (.cells #[.int .i64 a0, .int .i64 a1, .int .i64 a2, .int .i64 a3, .int .i64 a4, .int .i64 a5, .int .i64 a6, .int .i64 a7, .int .i64 a8, .int .i64 a9, .int .i64 a10, .int .i64 a11, .int .i64 b, .int .i64 c, .int .i64 a14] 52 (0, 0)) := by rw [← hw2]; exact row_set (row_set HA1.out 12 _) 13 _
  have hD2 : w2.heap[w.heap.size + 1]? = some (.cells #[.int .i64 b, .int .i64 c] 50 (0, 0)) := by rw [← hw2]; exact ((Below.heap_setCell _ _ _ _ (by show w.heap.size + 1 ≠ w.heap.size; omega)).trans (Below.heap_setCell _ _ _ _ (by show w.heap.size + 1 ≠ w.heap.size; omega))).trans HD1.out
  have hB2 : Below w.heap.size w w2 := by rw [← hw2]; exact bS (bS HB1.out (Nat.le_refl _)) (Nat.le_refl _)
  replace ur : RdI w2 .u8 uA l1 := by rw [← hw2]; exact RdI.setCell (RdI.setCell ur hune) hune
  rw [hw2]
  have HW2 := Lib.hid hw2
  have hsA := (Array.getElem?_eq_some_iff.1 hA2).1
  have hsD := (Array.getElem?_eq_some_iff.1 hD2).1
  clear hw2 hX1 hf1 hj0 hj1 HA1 HD1
  have P2 := layPut_any a0 a1 a2 a3 a4 a5 a6 a7 a8 a9 a10 a11 b c a14 w2 hv2
  rw [hr2] at P2
  refine P2.mono ?_
  rintro e w3 ⟨v, rfl, vo, hb3⟩
  clear P2
  obtain ⟨vA, vc, rfl, hv1, hv2'⟩ := own_slice vo
  have vr := RdI.of_own vo
  unfold maxLen at hv2'
  have hA3 := (hb3.block _ hsA).trans hA2
  have hD3 := (hb3.block _ hsD).trans hD2
  have HB3 := Lib.hid (bT hB2 hb3)
  replace ur := ur.below hb3
  clear vo hb3 hA2 hD2 hB2 hsA hsD hune
  obtain ⟨vd, rfl, hqq⟩ := vr.at_ (j := 21) (by rw [HP2.out]; decide)
  have hq0 : w3.cell? ⟨vd.block, vd.off + 21, none⟩ = some (.int .u8 x1) := vr.at1 (by rw [HP2.out]; decide) HX.out
  have hq1 : w3.cell? ⟨vd.block, vd.off + 22, none⟩ = some (.int .u8 y1) := vr.at1 (by rw [HP2.out]; decide) HY.out
  have hq2 : w3.cell? ⟨vd.block, vd.off + 23, none⟩ = some (.int .u8 z1) := vr.at1 (by rw [HP2.out]; decide) HZ.out
  have hq3 : w3.cell? ⟨vd.block, vd.off + 24, none⟩ = some (.int .u8 t1) := vr.at1 (by rw [HP2.out]; decide) HT1.out
  have hvb : vd.block < w3.heap.size := by have h := World.block_lt_of_cell? w3 _ hq0; exact h
  clear hqq
  replace hv1 : l2.length ≤ vc := hv1
  replace hu1 : l1.length ≤ uc := hu1
  have hu1' : 27 ≤ uc := by have := HP1.out; omega
  have hv1' : 27 ≤ vc := by have := HP2.out; omega
  have hul : (l1.length : Int) = 27 := by have := HP1.out; omega
  have hvl : (l2.length : Int) = 27 := by have := HP2.out; omega
  go_wp2_with fail
  have hS : Below w3.heap.size w3 w3 ∧ RdI w3 .u8 uA l1 ∧ RdI w3 .u8 (some vd) l2 ∧ (w.heap.size + 1 < w3.heap.size ∧ w3.cell? ⟨w.heap.size + 1, 0, none⟩ = some (.int .i64 b) ∧ w3.cell? ⟨w.heap.size + 1, 1, none⟩ = some (.int .i64 c)) ∧ (vd.block < w3.heap.size ∧ w3.cell? ⟨vd.block, vd.off + 21, none⟩ = some (.int .u8 x1) ∧ w3.cell? ⟨vd.block, vd.off + 22, none⟩ = some (.int .u8 y1) ∧ w3.cell? ⟨vd.block, vd.off + 23, none⟩ = some (.int .u8 z1) ∧ w3.cell? ⟨vd.block, vd.off + 24, none⟩ = some (.int .u8 t1)) := ⟨Below.refl _ _, ur, vr, ⟨(Array.getElem?_eq_some_iff.1 hD3).1, (cell_of_row _ _ 0 _ _ _ hD3).trans rfl, (cell_of_row _ _ 1 _ _ _ hD3).trans rfl⟩, hvb, hq0, hq1, hq2, hq3⟩
  clear hA3 hD3 ur vr hvb hq0 hq1 hq2 hq3
  have hcu : ¬ uc = 25 := by omega
  have hcv : ¬ vc = 25 := by omega
  have hup : (21 : Int) ≤ (uc : Int) := by omega
  have hvp : (21 : Int) ≤ (vc : Int) := by omega
  have hup2 : (27 : Int) ≤ (uc : Int) := by omega
  have hvp2 : (27 : Int) ≤ (vc : Int) := by omega
  clear hu1' hv1'
  have ew1 : IntKind.i64.wrap 22 = 22 := by decide
  have ew2 : IntKind.i64.wrap 23 = 23 := by decide
  have ew3 : IntKind.i64.wrap 24 = 24 := by decide
  have ew4 : IntKind.i64.wrap 25 = 25 := by decide
  have d1 : (x1 * 10 + y1 == b) = true := by rw [HBC.out]; simp
  have d2 : (z1 * 10 + t1 == c) = true := by rw [HCC.out]; simp
  have ex11 : IntKind.i64.wrap x1 = x1 := IntWalk.i64_in _ (by omega)
  have ex12 : IntKind.i64.wrap y1 = y1 := IntWalk.i64_in _ (by omega)
  have ex13 : IntKind.i64.wrap (x1 * 10) = x1 * 10 := IntWalk.i64_in _ (by omega)
  have ex14 : IntKind.i64.wrap (x1 * 10 + y1) = x1 * 10 + y1 := IntWalk.i64_in _ (by omega)
  have ez11 : IntKind.i64.wrap z1 = z1 := IntWalk.i64_in _ (by omega)
  have ez12 : IntKind.i64.wrap t1 = t1 := IntWalk.i64_in _ (by omega)
  have ez13 : IntKind.i64.wrap (z1 * 10) = z1 * 10 := IntWalk.i64_in _ (by omega)
  have ez14 : IntKind.i64.wrap (z1 * 10 + t1) = z1 * 10 + t1 := IntWalk.i64_in _ (by omega)
  refine wp_region_held_drew (S := fun w9 => Below w3.heap.size w3 w9 ∧ RdI w9 .u8 uA l1 ∧ RdI w9 .u8 (some vd) l2 ∧ (w.heap.size + 1 < w9.heap.size ∧ w9.cell? ⟨w.heap.size + 1, 0, none⟩ = some (.int .i64 b) ∧ w9.cell? ⟨w.heap.size + 1, 1, none⟩ = some (.int .i64 c)) ∧ (vd.block < w9.heap.size ∧ w9.cell? ⟨vd.block, vd.off + 21, none⟩ = some (.int .u8 x1) ∧ w9.cell? ⟨vd.block, vd.off + 22, none⟩ = some (.int .u8 y1) ∧ w9.cell? ⟨vd.block, vd.off + 23, none⟩ = some (.int .u8 z1) ∧ w9.cell? ⟨vd.block, vd.off + 24, none⟩ = some (.int .u8 t1))) (by kernel_rfl) ⟨hS.1.drew, hS.2⟩ (fun hHeld => ?_)
  refine wpAnyH_ready (rs := [0]) (by as_aux_lemma => kernel_rfl) (by simp) (AllReadyH.cons (o := ?_) ?hiu1 (fun K hK => ?_) AllReadyH.nil)
  case hiu1 => simp only [List.getElem?_toArray, List.getElem?_cons_zero, List.getElem?_cons_succ]; rfl
  (try rw [if_pos (by rfl)])
  go_wp2_with fail
  refine (laid_any _).mono ?_
  rintro e w5 ⟨rfl, hb5⟩
  dsimp only
  refine hK.out _ _ ?_ (fun hHeld => ?_)
  · exact ⟨bT hHeld.1 hb5, hHeld.2.1.below hb5, hHeld.2.2.1.below hb5, keep_two hHeld.2.2.2.1 hb5, keep_vd hHeld.2.2.2.2 hb5⟩
  clear hK K
  (try simp only [Act.put, List.setIfInBounds_toArray, List.set_cons_zero, List.set_cons_succ])
  refine wpAnyH_take (i := 1) (oi := ?_) (v := ?_) ?hiu2 (by as_aux_lemma => kernel_rfl) (by as_aux_lemma => kernel_rfl) (by as_aux_lemma => kernel_rfl) ?hQu2 (Or.inl ⟨?hwu2, ?hyu2⟩) hHeld ?restu2
  case hiu2 => simp only [List.getElem?_toArray, List.getElem?_cons_zero, List.getElem?_cons_succ]; rfl
  case hwu2 => rfl
  case hyu2 => (intro w9 hSw; (try dsimp only at hSw); go_simp; (try with_reducible rfl))
  case hQu2 => exact fun _ _ _ h => h
  (try simp only [Act.put, List.setIfInBounds_toArray, List.set_cons_zero, List.set_cons_succ])
  refine wpAnyH_take (i := 2) (oi := ?_) (v := ?_) ?hiu3 (by as_aux_lemma => kernel_rfl) (by as_aux_lemma => kernel_rfl) (by as_aux_lemma => kernel_rfl) ?hQu3 (Or.inl ⟨?hwu3, ?hyu3⟩) hHeld ?restu3
  case hiu3 => simp only [List.getElem?_toArray, List.getElem?_cons_zero, List.getElem?_cons_succ]; rfl
  case hwu3 => rfl
  case hyu3 => (intro w9 hSw; (try dsimp only at hSw); go_simp; (try with_reducible rfl))
  case hQu3 => exact fun _ _ _ h => h
  (try simp only [Act.put, List.setIfInBounds_toArray, List.set_cons_zero, List.set_cons_succ])
  refine wpAnyH_take (i := 3) (oi := ?_) (v := ?_) ?hiu4 (by as_aux_lemma => kernel_rfl) (by as_aux_lemma => kernel_rfl) (by as_aux_lemma => kernel_rfl) ?hQu4 (Or.inl ⟨?hwu4, ?hyu4⟩) hHeld ?restu4
  case hiu4 => simp only [List.getElem?_toArray, List.getElem?_cons_zero, List.getElem?_cons_succ]; rfl
  case hwu4 => rfl
  case hyu4 => (intro w9 hSw; (try dsimp only at hSw); go_simp; (try with_reducible rfl))
  case hQu4 => exact fun _ _ _ h => h
  (try simp only [Act.put, List.setIfInBounds_toArray, List.set_cons_zero, List.set_cons_succ])
  refine wpAnyH_take (i := 4) (oi := ?_) (v := ?_) ?hiu5 (by as_aux_lemma => kernel_rfl) (by as_aux_lemma => kernel_rfl) (by as_aux_lemma => kernel_rfl) ?hQu5 (Or.inl ⟨?hwu5, ?hyu5⟩) hHeld ?restu5
  case hiu5 => simp only [List.getElem?_toArray, List.getElem?_cons_zero, List.getElem?_cons_succ]; rfl
  case hwu5 => rfl
  case hyu5 => (intro w9 hSw; (try dsimp only at hSw); go_simp; (try with_reducible rfl))
  case hQu5 => exact fun _ _ _ h => h
  (try simp only [Act.put, List.setIfInBounds_toArray, List.set_cons_zero, List.set_cons_succ])
  refine wpAnyH_take (i := 5) (oi := ?_) (v := ?_) ?hiu6 (by as_aux_lemma => kernel_rfl) (by as_aux_lemma => kernel_rfl) (by as_aux_lemma => kernel_rfl) ?hQu6 (Or.inl ⟨?hwu6, ?hyu6⟩) hHeld ?restu6
  case hiu6 => simp only [List.getElem?_toArray, List.getElem?_cons_zero, List.getElem?_cons_succ]; rfl
  case hwu6 => rfl
  case hyu6 => (intro w9 hSw; (try dsimp only at hSw); go_simp; (try with_reducible rfl))
  case hQu6 => exact fun _ _ _ h => h
  (try simp only [Act.put, List.setIfInBounds_toArray, List.set_cons_zero, List.set_cons_succ])
  refine wpAnyH_take (i := 6) (oi := ?_) (v := ?_) ?hiu7 (by as_aux_lemma => kernel_rfl) (by as_aux_lemma => kernel_rfl) (by as_aux_lemma => kernel_rfl) ?hQu7 (Or.inl ⟨?hwu7, ?hyu7⟩) hHeld ?restu7
  case hiu7 => simp only [List.getElem?_toArray, List.getElem?_cons_zero, List.getElem?_cons_succ]; rfl
  case hwu7 => rfl
  case hyu7 => (intro w9 hSw; (try dsimp only at hSw); go_simp; (try with_reducible rfl))
  case hQu7 => exact fun _ _ _ h => h
  (try simp only [Act.put, List.setIfInBounds_toArray, List.set_cons_zero, List.set_cons_succ])
  refine wpAnyH_take (i := 7) (oi := ?_) (v := ?_) ?hiu8 (by as_aux_lemma => kernel_rfl) (by as_aux_lemma => kernel_rfl) (by as_aux_lemma => kernel_rfl) ?hQu8 (Or.inl ⟨?hwu8, ?hyu8⟩) hHeld ?restu8
  case hiu8 => simp only [List.getElem?_toArray, List.getElem?_cons_zero, List.getElem?_cons_succ]; rfl
  case hwu8 => rfl
  case hyu8 => (intro w9 hSw; (try dsimp only at hSw); go_simp; (try with_reducible rfl))
  case hQu8 => exact fun _ _ _ h => h
  (try simp only [Act.put, List.setIfInBounds_toArray, List.set_cons_zero, List.set_cons_succ])
  refine wpAnyH_ready (rs := [8]) (by as_aux_lemma => kernel_rfl) (by simp) (AllReadyH.cons (o := ?_) ?hiu9 (fun K hK => ?_) AllReadyH.nil)
  case hiu9 => simp only [List.getElem?_toArray, List.getElem?_cons_zero, List.getElem?_cons_succ]; rfl
  (try rw [if_pos (by rfl)])
  go_wp2_with fail
  refine (same01_len _ _ _ _ (l1.take 21) (l2.take 21) _ 21 21 (by rw [List.length_take, HP1.out]; decide) (by rw [List.length_take, HP2.out]; decide) (hHeld.2.1.take 21) (hHeld.2.2.1.take 21) (by decide) (by decide)).mono ?_
  rintro e w6 ⟨he, n6, hw6⟩
  rw [show (l1.take 21 == l2.take 21) = true from by rw [HT.out]; simp] at he
  subst he
  have hb6 : Below w5.heap.size w5 w6 := by rw [hw6]; exact bN (Below.refl _ _) n6
  clear hw6
  dsimp only
  refine hK.out _ _ ?_ (fun hHeld => ?_)
  · exact ⟨bT hHeld.1 hb6, hHeld.2.1.below hb6, hHeld.2.2.1.below hb6, keep_two hHeld.2.2.2.1 hb6, keep_vd hHeld.2.2.2.2 hb6⟩
  clear hK K
  (try simp only [Act.put, List.setIfInBounds_toArray, List.set_cons_zero, List.set_cons_succ])
  refine wpAnyH_take (i := 9) (oi := ?_) (v := ?_) ?hiu10 (by as_aux_lemma => kernel_rfl) (by as_aux_lemma => kernel_rfl) (by as_aux_lemma => kernel_rfl) ?hQu10 (Or.inl ⟨?hwu10, ?hyu10⟩) hHeld ?restu10
  case hiu10 => simp only [List.getElem?_toArray, List.getElem?_cons_zero, List.getElem?_cons_succ]; rfl
  case hwu10 => rfl
  case hyu10 => (intro w9 hSw; (try dsimp only at hSw); go_simp; (try with_reducible rfl))
  case hQu10 => exact fun _ _ _ h => h
  (try simp only [Act.put, List.setIfInBounds_toArray, List.set_cons_zero, List.set_cons_succ])
  refine wpAnyH_take (i := 10) (oi := ?_) (v := ?_) ?hiu11 (by as_aux_lemma => kernel_rfl) (by as_aux_lemma => kernel_rfl) (by as_aux_lemma => kernel_rfl) ?hQu11 (Or.inl ⟨?hwu11, ?hyu11⟩) hHeld ?restu11
  case hiu11 => simp only [List.getElem?_toArray, List.getElem?_cons_zero, List.getElem?_cons_succ]; rfl
  case hwu11 => rfl
  case hyu11 => (intro w9 hSw; (try dsimp only at hSw); go_simp; (try with_reducible rfl))
  case hQu11 => exact fun _ _ _ h => h
  (try simp only [Act.put, List.setIfInBounds_toArray, List.set_cons_zero, List.set_cons_succ])
  refine wpAnyH_take (i := 11) (oi := ?_) (v := ?_) ?hiu12 (by as_aux_lemma => kernel_rfl) (by as_aux_lemma => kernel_rfl) (by as_aux_lemma => kernel_rfl) ?hQu12 (Or.inl ⟨?hwu12, ?hyu12⟩) hHeld ?restu12
  case hiu12 => simp only [List.getElem?_toArray, List.getElem?_cons_zero, List.getElem?_cons_succ]; rfl
  case hwu12 => rfl
  case hyu12 => (intro w9 hSw; (try dsimp only at hSw); go_simp; (try with_reducible rfl))
  case hQu12 => exact fun _ _ _ h => h
  (try simp only [Act.put, List.setIfInBounds_toArray, List.set_cons_zero, List.set_cons_succ])
  refine wpAnyH_take (i := 12) (oi := ?_) (v := ?_) ?hiu13 (by as_aux_lemma => kernel_rfl) (by as_aux_lemma => kernel_rfl) (by as_aux_lemma => kernel_rfl) ?hQu13 (Or.inl ⟨?hwu13, ?hyu13⟩) hHeld ?restu13
  case hiu13 => simp only [List.getElem?_toArray, List.getElem?_cons_zero, List.getElem?_cons_succ]; rfl
  case hwu13 => rfl
  case hyu13 => (intro w9 hSw; (try dsimp only at hSw); go_simp; (try with_reducible rfl))
  case hQu13 => exact fun _ _ _ h => h
  (try simp only [Act.put, List.setIfInBounds_toArray, List.set_cons_zero, List.set_cons_succ])
  refine wpAnyH_take (i := 13) (oi := ?_) (v := ?_) ?hiu14 (by as_aux_lemma => kernel_rfl) (by as_aux_lemma => kernel_rfl) (by as_aux_lemma => kernel_rfl) ?hQu14 (Or.inl ⟨?hwu14, ?hyu14⟩) hHeld ?restu14
  case hiu14 => simp only [List.getElem?_toArray, List.getElem?_cons_zero, List.getElem?_cons_succ]; rfl
  case hwu14 => rfl
  case hyu14 => (intro w9 hSw; (try dsimp only at hSw); go_simp; (try with_reducible rfl))
  case hQu14 => exact fun _ _ _ h => h
  (try simp only [Act.put, List.setIfInBounds_toArray, List.set_cons_zero, List.set_cons_succ])
  refine wpAnyH_take (i := 14) (oi := ?_) (v := ?_) ?hiu15 (by as_aux_lemma => kernel_rfl) (by as_aux_lemma => kernel_rfl) (by as_aux_lemma => kernel_rfl) ?hQu15 (Or.inl ⟨?hwu15, ?hyu15⟩) hHeld ?restu15
  case hiu15 => simp only [List.getElem?_toArray, List.getElem?_cons_zero, List.getElem?_cons_succ]; rfl
  case hwu15 => rfl
  case hyu15 => (intro w9 hSw; (try dsimp only at hSw); go_simp; (try with_reducible rfl))
  case hQu15 => exact fun _ _ _ h => h
  (try simp only [Act.put, List.setIfInBounds_toArray, List.set_cons_zero, List.set_cons_succ])
  refine wpAnyH_take (i := 15) (oi := ?_) (v := ?_) ?hiu16 (by as_aux_lemma => kernel_rfl) (by as_aux_lemma => kernel_rfl) (by as_aux_lemma => kernel_rfl) ?hQu16 (Or.inl ⟨?hwu16, ?hyu16⟩) hHeld ?restu16
  case hiu16 => simp only [List.getElem?_toArray, List.getElem?_cons_zero, List.getElem?_cons_succ]; rfl
  case hwu16 => rfl
  case hyu16 => (intro w9 hSw; (try dsimp only at hSw); go_simp; (try with_reducible rfl))
  case hQu16 => exact fun _ _ _ h => h
  (try simp only [Act.put, List.setIfInBounds_toArray, List.set_cons_zero, List.set_cons_succ])
  refine wpAnyH_take (i := 16) (oi := ?_) (v := ?_) ?hiu17 (by as_aux_lemma => kernel_rfl) (by as_aux_lemma => kernel_rfl) (by as_aux_lemma => kernel_rfl) ?hQu17 (Or.inl ⟨?hwu17, ?hyu17⟩) hHeld ?restu17
  case hiu17 => simp only [List.getElem?_toArray, List.getElem?_cons_zero, List.getElem?_cons_succ]; rfl
  case hwu17 => rfl
  case hyu17 => (intro w9 hSw; (try dsimp only at hSw); go_simp; (try with_reducible rfl))
  case hQu17 => exact fun _ _ _ h => h
  (try simp only [Act.put, List.setIfInBounds_toArray, List.set_cons_zero, List.set_cons_succ])
  refine wpAnyH_take (i := 17) (oi := ?_) (v := ?_) ?hiu18 (by as_aux_lemma => kernel_rfl) (by as_aux_lemma => kernel_rfl) (by as_aux_lemma => kernel_rfl) ?hQu18 (Or.inl ⟨?hwu18, ?hyu18⟩) hHeld ?restu18
  case hiu18 => simp only [List.getElem?_toArray, List.getElem?_cons_zero, List.getElem?_cons_succ]; rfl
  case hwu18 => rfl
  case hyu18 => (intro w9 hSw; (try dsimp only at hSw); go_simp; (try with_reducible rfl))
  case hQu18 => exact fun _ _ _ h => h
  (try simp only [Act.put, List.setIfInBounds_toArray, List.set_cons_zero, List.set_cons_succ])
  refine wpAnyH_take (i := 18) (oi := ?_) (v := ?_) ?hiu19 (by as_aux_lemma => kernel_rfl) (by as_aux_lemma => kernel_rfl) (by as_aux_lemma => kernel_rfl) ?hQu19 (Or.inl ⟨?hwu19, ?hyu19⟩) hHeld ?restu19
  case hiu19 => simp only [List.getElem?_toArray, List.getElem?_cons_zero, List.getElem?_cons_succ]; rfl
  case hwu19 => rfl
  case hyu19 => (intro w9 hSw; (try dsimp only at hSw); go_simp; (try with_reducible rfl))
  case hQu19 => exact fun _ _ _ h => h
  (try simp only [Act.put, List.setIfInBounds_toArray, List.set_cons_zero, List.set_cons_succ])
  refine wpAnyH_ready (rs := [19]) (by as_aux_lemma => kernel_rfl) (by simp) (AllReadyH.cons (o := ?_) ?hiu20 (fun K hK => ?_) AllReadyH.nil)
  case hiu20 => simp only [List.getElem?_toArray, List.getElem?_cons_zero, List.getElem?_cons_succ]; rfl
  (try rw [if_pos (by rfl)])
  go_wp2_with fail
  refine (same01_len _ _ _ _ (l1.drop 25) (l2.drop 25) _ (l1.length - 25) (l2.length - 25) (by rw [List.length_drop]) (by rw [List.length_drop]) (by have h := RdI.cut (c := uc) hHeld.2.1 25 hu1; rw [if_neg hcu] at h; exact h) (by have h := RdI.cut (c := vc) hHeld.2.2.1 25 hv1; rw [if_neg hcv] at h; exact h) (by have := HP1.out; omega) (by have := HP2.out; omega)).mono ?_
  rintro e w7 ⟨he, n7, hw7⟩
  rw [show (l1.drop 25 == l2.drop 25) = true from by rw [HDR.out]; simp] at he
  subst he
  have hb7 : Below w6.heap.size w6 w7 := by rw [hw7]; exact bN (Below.refl _ _) n7
  clear hw7
  dsimp only
  refine hK.out _ _ ?_ (fun hHeld => ?_)
  · exact ⟨bT hHeld.1 hb7, hHeld.2.1.below hb7, hHeld.2.2.1.below hb7, keep_two hHeld.2.2.2.1 hb7, keep_vd hHeld.2.2.2.2 hb7⟩
  clear hK K
  (try simp only [Act.put, List.setIfInBounds_toArray, List.set_cons_zero, List.set_cons_succ])
  refine wpAnyH_take (i := 20) (oi := ?_) (v := ?_) ?hiu21 (by as_aux_lemma => kernel_rfl) (by as_aux_lemma => kernel_rfl) (by as_aux_lemma => kernel_rfl) ?hQu21 (Or.inl ⟨?hwu21, ?hyu21⟩) hHeld ?restu21
  case hiu21 => simp only [List.getElem?_toArray, List.getElem?_cons_zero, List.getElem?_cons_succ]; rfl
  case hwu21 => rfl
  case hyu21 => (intro w9 hSw; (try dsimp only at hSw); go_simp; (try with_reducible rfl))
  case hQu21 => exact fun _ _ _ h => h
  (try simp only [Act.put, List.setIfInBounds_toArray, List.set_cons_zero, List.set_cons_succ])
  refine wpAnyH_take (i := 21) (oi := ?_) (v := ?_) ?hiu22 (by as_aux_lemma => kernel_rfl) (by as_aux_lemma => kernel_rfl) (by as_aux_lemma => kernel_rfl) ?hQu22 (Or.inl ⟨?hwu22, ?hyu22⟩) hHeld ?restu22
  case hiu22 => simp only [List.getElem?_toArray, List.getElem?_cons_zero, List.getElem?_cons_succ]; rfl
  case hwu22 => rfl
  case hyu22 => (intro w9 hSw; (try dsimp only at hSw); go_simp; (try with_reducible rfl))
  case hQu22 => exact fun _ _ _ h => h
  (try simp only [Act.put, List.setIfInBounds_toArray, List.set_cons_zero, List.set_cons_succ])
  refine wpAnyH_take (i := 22) (oi := ?_) (v := ?_) ?hiu23 (by as_aux_lemma => kernel_rfl) (by as_aux_lemma => kernel_rfl) (by as_aux_lemma => kernel_rfl) ?hQu23 (Or.inl ⟨?hwu23, ?hyu23⟩) hHeld ?restu23
  case hiu23 => simp only [List.getElem?_toArray, List.getElem?_cons_zero, List.getElem?_cons_succ]; rfl
  case hwu23 => rfl
  case hyu23 => (intro w9 hSw; (try dsimp only at hSw); go_simp; (try with_reducible rfl))
  case hQu23 => exact fun _ _ _ h => h
  (try simp only [Act.put, List.setIfInBounds_toArray, List.set_cons_zero, List.set_cons_succ])
  refine wpAnyH_take (i := 23) (oi := ?_) (v := ?_) ?hiu24 (by as_aux_lemma => kernel_rfl) (by as_aux_lemma => kernel_rfl) (by as_aux_lemma => kernel_rfl) ?hQu24 (Or.inl ⟨?hwu24, ?hyu24⟩) hHeld ?restu24
  case hiu24 => simp only [List.getElem?_toArray, List.getElem?_cons_zero, List.getElem?_cons_succ]; rfl
  case hwu24 => rfl
  case hyu24 => (intro w9 hSw; (try dsimp only at hSw); go_simp; (try with_reducible rfl))
  case hQu24 => exact fun _ _ _ h => h
  (try simp only [Act.put, List.setIfInBounds_toArray, List.set_cons_zero, List.set_cons_succ])
  refine wpAnyH_take (i := 24) (oi := ?_) (v := ?_) ?hiu25 (by as_aux_lemma => kernel_rfl) (by as_aux_lemma => kernel_rfl) (by as_aux_lemma => kernel_rfl) ?hQu25 (Or.inl ⟨?hwu25, ?hyu25⟩) hHeld ?restu25
  case hiu25 => simp only [List.getElem?_toArray, List.getElem?_cons_zero, List.getElem?_cons_succ]; rfl
  case hwu25 => rfl
  case hyu25 => (intro w9 hSw; (try dsimp only at hSw); go_simp; (try with_reducible rfl))
  case hQu25 => exact fun _ _ _ h => h
  (try simp only [Act.put, List.setIfInBounds_toArray, List.set_cons_zero, List.set_cons_succ])
  refine wpAnyH_take (i := 25) (oi := ?_) (v := ?_) ?hiu26 (by as_aux_lemma => kernel_rfl) (by as_aux_lemma => kernel_rfl) (by as_aux_lemma => kernel_rfl) ?hQu26 (Or.inl ⟨?hwu26, ?hyu26⟩) hHeld ?restu26
  case hiu26 => simp only [List.getElem?_toArray, List.getElem?_cons_zero, List.getElem?_cons_succ]; rfl
  case hwu26 => rfl
  case hyu26 => (intro w9 hSw; (try dsimp only at hSw); go_simp; (try with_reducible rfl))
  case hQu26 => exact fun _ _ _ h => h
  (try simp only [Act.put, List.setIfInBounds_toArray, List.set_cons_zero, List.set_cons_succ])
  refine wpAnyH_take (i := 26) (oi := ?_) (v := ?_) ?hiu27 (by as_aux_lemma => kernel_rfl) (by as_aux_lemma => kernel_rfl) (by as_aux_lemma => kernel_rfl) ?hQu27 (Or.inl ⟨?hwu27, ?hyu27⟩) hHeld ?restu27
  case hiu27 => simp only [List.getElem?_toArray, List.getElem?_cons_zero, List.getElem?_cons_succ]; rfl
  case hwu27 => rfl
  case hyu27 => (intro w9 hSw; (try dsimp only at hSw); go_simp; (try with_reducible rfl))
  case hQu27 => exact fun _ _ _ h => h
  (try simp only [Act.put, List.setIfInBounds_toArray, List.set_cons_zero, List.set_cons_succ])
  refine wpAnyH_take (i := 27) (oi := ?_) (v := ?_) ?hiu28 (by as_aux_lemma => kernel_rfl) (by as_aux_lemma => kernel_rfl) (by as_aux_lemma => kernel_rfl) ?hQu28 (Or.inl ⟨?hwu28, ?hyu28⟩) hHeld ?restu28
  case hiu28 => simp only [List.getElem?_toArray, List.getElem?_cons_zero, List.getElem?_cons_succ]; rfl
  case hwu28 => rfl
  case hyu28 => (intro w9 hSw; (try dsimp only at hSw); go_simp; (try with_reducible rfl))
  case hQu28 => exact fun _ _ _ h => h
  (try simp only [Act.put, List.setIfInBounds_toArray, List.set_cons_zero, List.set_cons_succ])
  refine wpAnyH_take (i := 28) (oi := ?_) (v := ?_) ?hiu29 (by as_aux_lemma => kernel_rfl) (by as_aux_lemma => kernel_rfl) (by as_aux_lemma => kernel_rfl) ?hQu29 (Or.inl ⟨?hwu29, ?hyu29⟩) hHeld ?restu29
  case hiu29 => simp only [List.getElem?_toArray, List.getElem?_cons_zero, List.getElem?_cons_succ]; rfl
  case hwu29 => rfl
  case hyu29 => (intro w9 hSw; (try dsimp only at hSw); go_simp; (try with_reducible rfl))
  case hQu29 => exact fun _ _ _ h => h
  (try simp only [Act.put, List.setIfInBounds_toArray, List.set_cons_zero, List.set_cons_succ])
  refine wpAnyH_take (i := 29) (oi := ?_) (v := ?_) ?hiu30 (by as_aux_lemma => kernel_rfl) (by as_aux_lemma => kernel_rfl) (by as_aux_lemma => kernel_rfl) ?hQu30 (Or.inl ⟨?hwu30, ?hyu30⟩) hHeld ?restu30
  case hiu30 => simp only [List.getElem?_toArray, List.getElem?_cons_zero, List.getElem?_cons_succ]; rfl
  case hwu30 => rfl
  case hyu30 => (intro w9 hSw; (try dsimp only at hSw); go_simp; (try with_reducible rfl))
  case hQu30 => exact fun _ _ _ h => h
  (try simp only [Act.put, List.setIfInBounds_toArray, List.set_cons_zero, List.set_cons_succ])
  refine wpAnyH_take (i := 30) (oi := ?_) (v := ?_) ?hiu31 (by as_aux_lemma => kernel_rfl) (by as_aux_lemma => kernel_rfl) (by as_aux_lemma => kernel_rfl) ?hQu31 (Or.inl ⟨?hwu31, ?hyu31⟩) hHeld ?restu31
  case hiu31 => simp only [List.getElem?_toArray, List.getElem?_cons_zero, List.getElem?_cons_succ]; rfl
  case hwu31 => rfl
  case hyu31 => (intro w9 hSw; (try dsimp only at hSw); go_simp; (try with_reducible rfl))
  case hQu31 => exact fun _ _ _ h => h
  (try simp only [Act.put, List.setIfInBounds_toArray, List.set_cons_zero, List.set_cons_succ])
  refine wpAnyH_take (i := 31) (oi := ?_) (v := ?_) ?hiu32 (by as_aux_lemma => kernel_rfl) (by as_aux_lemma => kernel_rfl) (by as_aux_lemma => kernel_rfl) ?hQu32 (Or.inl ⟨?hwu32, ?hyu32⟩) hHeld ?restu32
  case hiu32 => simp only [List.getElem?_toArray, List.getElem?_cons_zero, List.getElem?_cons_succ]; rfl
  case hwu32 => rfl
  case hyu32 => (intro w9 hSw; (try dsimp only at hSw); go_simp; (try with_reducible rfl))
  case hQu32 => exact fun _ _ _ h => h
  (try simp only [Act.put, List.setIfInBounds_toArray, List.set_cons_zero, List.set_cons_succ])
  refine wpAnyH_take (i := 32) (oi := ?_) (v := ?_) ?hiu33 (by as_aux_lemma => kernel_rfl) (by as_aux_lemma => kernel_rfl) (by as_aux_lemma => kernel_rfl) ?hQu33 (Or.inl ⟨?hwu33, ?hyu33⟩) hHeld ?restu33
  case hiu33 => simp only [List.getElem?_toArray, List.getElem?_cons_zero, List.getElem?_cons_succ]; rfl
  case hwu33 => rfl
  case hyu33 => (intro w9 hSw; (try dsimp only at hSw); go_simp; (try with_reducible rfl))
  case hQu33 => exact fun _ _ _ h => h
  (try simp only [Act.put, List.setIfInBounds_toArray, List.set_cons_zero, List.set_cons_succ])
  refine wpAnyH_take (i := 33) (oi := ?_) (v := ?_) ?hiu34 (by as_aux_lemma => kernel_rfl) (by as_aux_lemma => kernel_rfl) (by as_aux_lemma => kernel_rfl) ?hQu34 (Or.inl ⟨?hwu34, ?hyu34⟩) hHeld ?restu34
  case hiu34 => simp only [List.getElem?_toArray, List.getElem?_cons_zero, List.getElem?_cons_succ]; rfl
  case hwu34 => rfl
  case hyu34 => (intro w9 hSw; (try dsimp only at hSw); go_simp; (try with_reducible rfl))
  case hQu34 => exact fun _ _ _ h => h
  (try simp only [Act.put, List.setIfInBounds_toArray, List.set_cons_zero, List.set_cons_succ])
  refine wpAnyH_take (i := 34) (oi := ?_) (v := ?_) ?hiu35 (by as_aux_lemma => kernel_rfl) (by as_aux_lemma => kernel_rfl) (by as_aux_lemma => kernel_rfl) ?hQu35 (Or.inl ⟨?hwu35, ?hyu35⟩) hHeld ?restu35
  case hiu35 => simp only [List.getElem?_toArray, List.getElem?_cons_zero, List.getElem?_cons_succ]; rfl
  case hwu35 => rfl
  case hyu35 => (intro w9 hSw; (try dsimp only at hSw); go_simp; (try with_reducible rfl))
  case hQu35 => exact fun _ _ _ h => h
  (try simp only [Act.put, List.setIfInBounds_toArray, List.set_cons_zero, List.set_cons_succ])
  refine wpAnyH_take (i := 35) (oi := ?_) (v := ?_) ?hiu36 (by as_aux_lemma => kernel_rfl) (by as_aux_lemma => kernel_rfl) (by as_aux_lemma => kernel_rfl) ?hQu36 (Or.inl ⟨?hwu36, ?hyu36⟩) hHeld ?restu36
  case hiu36 => simp only [List.getElem?_toArray, List.getElem?_cons_zero, List.getElem?_cons_succ]; rfl
  case hwu36 => rfl
  case hyu36 => (intro w9 hSw; (try dsimp only at hSw); go_simp; (try with_reducible rfl))
  case hQu36 => exact fun _ _ _ h => h
  (try simp only [Act.put, List.setIfInBounds_toArray, List.set_cons_zero, List.set_cons_succ])
  refine wpAnyH_take (i := 36) (oi := ?_) (v := ?_) ?hiu37 (by as_aux_lemma => kernel_rfl) (by as_aux_lemma => kernel_rfl) (by as_aux_lemma => kernel_rfl) ?hQu37 (Or.inl ⟨?hwu37, ?hyu37⟩) hHeld ?restu37
  case hiu37 => simp only [List.getElem?_toArray, List.getElem?_cons_zero, List.getElem?_cons_succ]; rfl
  case hwu37 => rfl
  case hyu37 => (intro w9 hSw; (try dsimp only at hSw); go_simp; (try with_reducible rfl))
  case hQu37 => exact fun _ _ _ h => h
  (try simp only [Act.put, List.setIfInBounds_toArray, List.set_cons_zero, List.set_cons_succ])
  refine wpAnyH_take (i := 37) (oi := ?_) (v := ?_) ?hiu38 (by as_aux_lemma => kernel_rfl) (by as_aux_lemma => kernel_rfl) (by as_aux_lemma => kernel_rfl) ?hQu38 (Or.inl ⟨?hwu38, ?hyu38⟩) hHeld ?restu38
  case hiu38 => simp only [List.getElem?_toArray, List.getElem?_cons_zero, List.getElem?_cons_succ]; rfl
  case hwu38 => rfl
  case hyu38 => (intro w9 hSw; (try dsimp only at hSw); go_simp; (try with_reducible rfl))
  case hQu38 => exact fun _ _ _ h => h
  (try simp only [Act.put, List.setIfInBounds_toArray, List.set_cons_zero, List.set_cons_succ])
  refine wpAnyH_take (i := 38) (oi := ?_) (v := ?_) ?hiu39 (by as_aux_lemma => kernel_rfl) (by as_aux_lemma => kernel_rfl) (by as_aux_lemma => kernel_rfl) ?hQu39 (Or.inl ⟨?hwu39, ?hyu39⟩) hHeld ?restu39
  case hiu39 => simp only [List.getElem?_toArray, List.getElem?_cons_zero, List.getElem?_cons_succ]; rfl
  case hwu39 => rfl
  case hyu39 => (intro w9 hSw; (try dsimp only at hSw); go_simp; (try with_reducible rfl))
  case hQu39 => exact fun _ _ _ h => h
  (try simp only [Act.put, List.setIfInBounds_toArray, List.set_cons_zero, List.set_cons_succ])
  refine wpAnyH_take (i := 39) (oi := ?_) (v := ?_) ?hiu40 (by as_aux_lemma => kernel_rfl) (by as_aux_lemma => kernel_rfl) (by as_aux_lemma => kernel_rfl) ?hQu40 (Or.inl ⟨?hwu40, ?hyu40⟩) hHeld ?restu40
  case hiu40 => simp only [List.getElem?_toArray, List.getElem?_cons_zero, List.getElem?_cons_succ]; rfl
  case hwu40 => rfl
  case hyu40 => (intro w9 hSw; (try dsimp only at hSw); go_simp; (try with_reducible rfl))
  case hQu40 => exact fun _ _ _ h => h
  (try simp only [Act.put, List.setIfInBounds_toArray, List.set_cons_zero, List.set_cons_succ])
  refine wpAnyH_take (i := 40) (oi := ?_) (v := ?_) ?hiu41 (by as_aux_lemma => kernel_rfl) (by as_aux_lemma => kernel_rfl) (by as_aux_lemma => kernel_rfl) ?hQu41 (Or.inl ⟨?hwu41, ?hyu41⟩) hHeld ?restu41
  case hiu41 => simp only [List.getElem?_toArray, List.getElem?_cons_zero, List.getElem?_cons_succ]; rfl
  case hwu41 => rfl
  case hyu41 => (intro w9 hSw; (try dsimp only at hSw); go_simp; (try with_reducible rfl))
  case hQu41 => exact fun _ _ _ h => h
  (try simp only [Act.put, List.setIfInBounds_toArray, List.set_cons_zero, List.set_cons_succ])
  refine wpAnyH_take (i := 41) (oi := ?_) (v := ?_) ?hiu42 (by as_aux_lemma => kernel_rfl) (by as_aux_lemma => kernel_rfl) (by as_aux_lemma => kernel_rfl) ?hQu42 (Or.inl ⟨?hwu42, ?hyu42⟩) hHeld ?restu42
  case hiu42 => simp only [List.getElem?_toArray, List.getElem?_cons_zero, List.getElem?_cons_succ]; rfl
  case hwu42 => rfl
  case hyu42 => (intro w9 hSw; (try dsimp only at hSw); go_simp; (try with_reducible rfl))
  case hQu42 => exact fun _ _ _ h => h
  (try simp only [Act.put, List.setIfInBounds_toArray, List.set_cons_zero, List.set_cons_succ])
  refine wpAnyH_take (i := 42) (oi := ?_) (v := ?_) ?hiu43 (by as_aux_lemma => kernel_rfl) (by as_aux_lemma => kernel_rfl) (by as_aux_lemma => kernel_rfl) ?hQu43 (Or.inl ⟨?hwu43, ?hyu43⟩) hHeld ?restu43
  case hiu43 => simp only [List.getElem?_toArray, List.getElem?_cons_zero, List.getElem?_cons_succ]; rfl
  case hwu43 => rfl
  case hyu43 => (intro w9 hSw; (try dsimp only at hSw); go_simp; (try with_reducible rfl))
  case hQu43 => exact fun _ _ _ h => h
  (try simp only [Act.put, List.setIfInBounds_toArray, List.set_cons_zero, List.set_cons_succ])
  refine wpAnyH_take (i := 43) (oi := ?_) (v := ?_) ?hiu44 (by as_aux_lemma => kernel_rfl) (by as_aux_lemma => kernel_rfl) (by as_aux_lemma => kernel_rfl) ?hQu44 (Or.inl ⟨?hwu44, ?hyu44⟩) hHeld ?restu44
  case hiu44 => simp only [List.getElem?_toArray, List.getElem?_cons_zero, List.getElem?_cons_succ]; rfl
  case hwu44 => rfl
  case hyu44 => (intro w9 hSw; (try dsimp only at hSw); go_simp; (try with_reducible rfl))
  case hQu44 => exact fun _ _ _ h => h
  (try simp only [Act.put, List.setIfInBounds_toArray, List.set_cons_zero, List.set_cons_succ])
  refine wpAnyH_take (i := 44) (oi := ?_) (v := ?_) ?hiu45 (by as_aux_lemma => kernel_rfl) (by as_aux_lemma => kernel_rfl) (by as_aux_lemma => kernel_rfl) ?hQu45 (Or.inl ⟨?hwu45, ?hyu45⟩) hHeld ?restu45
  case hiu45 => simp only [List.getElem?_toArray, List.getElem?_cons_zero, List.getElem?_cons_succ]; rfl
  case hwu45 => rfl
  case hyu45 => (intro w9 hSw; (try dsimp only at hSw); go_simp; (try with_reducible rfl))
  case hQu45 => exact fun _ _ _ h => h
  (try simp only [Act.put, List.setIfInBounds_toArray, List.set_cons_zero, List.set_cons_succ])
  refine wpAnyH_take (i := 45) (oi := ?_) (v := ?_) ?hiu46 (by as_aux_lemma => kernel_rfl) (by as_aux_lemma => kernel_rfl) (by as_aux_lemma => kernel_rfl) ?hQu46 (Or.inl ⟨?hwu46, ?hyu46⟩) hHeld ?restu46
  case hiu46 => simp only [List.getElem?_toArray, List.getElem?_cons_zero, List.getElem?_cons_succ]; rfl
  case hwu46 => rfl
  case hyu46 => (intro w9 hSw; (try dsimp only at hSw); go_simp; (try with_reducible rfl))
  case hQu46 => exact fun _ _ _ h => h
  (try simp only [Act.put, List.setIfInBounds_toArray, List.set_cons_zero, List.set_cons_succ])
  refine wpAnyH_take (i := 46) (oi := ?_) (v := ?_) ?hiu47 (by as_aux_lemma => kernel_rfl) (by as_aux_lemma => kernel_rfl) (by as_aux_lemma => kernel_rfl) ?hQu47 (Or.inl ⟨?hwu47, ?hyu47⟩) hHeld ?restu47
  case hiu47 => simp only [List.getElem?_toArray, List.getElem?_cons_zero, List.getElem?_cons_succ]; rfl
  case hwu47 => rfl
  case hyu47 => (intro w9 hSw; (try dsimp only at hSw); go_simp; (try with_reducible rfl))
  case hQu47 => exact fun _ _ _ h => h
  (try simp only [Act.put, List.setIfInBounds_toArray, List.set_cons_zero, List.set_cons_succ])
  refine wpAnyH_take (i := 47) (oi := ?_) (v := ?_) ?hiu48 (by as_aux_lemma => kernel_rfl) (by as_aux_lemma => kernel_rfl) (by as_aux_lemma => kernel_rfl) ?hQu48 (Or.inl ⟨?hwu48, ?hyu48⟩) hHeld ?restu48
  case hiu48 => simp only [List.getElem?_toArray, List.getElem?_cons_zero, List.getElem?_cons_succ]; rfl
  case hwu48 => rfl
  case hyu48 => (intro w9 hSw; (try dsimp only at hSw); go_simp; (try with_reducible rfl))
  case hQu48 => exact fun _ _ _ h => h
  (try simp only [Act.put, List.setIfInBounds_toArray, List.set_cons_zero, List.set_cons_succ])
  refine wpAnyH_take (i := 48) (oi := ?_) (v := ?_) ?hiu49 (by as_aux_lemma => kernel_rfl) (by as_aux_lemma => kernel_rfl) (by as_aux_lemma => kernel_rfl) ?hQu49 (Or.inl ⟨?hwu49, ?hyu49⟩) hHeld ?restu49
  case hiu49 => simp only [List.getElem?_toArray, List.getElem?_cons_zero, List.getElem?_cons_succ]; rfl
  case hwu49 => rfl
  case hyu49 => (intro w9 hSw; (try dsimp only at hSw); go_simp; (try with_reducible rfl))
  case hQu49 => exact fun _ _ _ h => h
  (try simp only [Act.put, List.setIfInBounds_toArray, List.set_cons_zero, List.set_cons_succ])
  refine wpAnyH_take (i := 49) (oi := ?_) (v := ?_) ?hiu50 (by as_aux_lemma => kernel_rfl) (by as_aux_lemma => kernel_rfl) (by as_aux_lemma => kernel_rfl) ?hQu50 (Or.inl ⟨?hwu50, ?hyu50⟩) hHeld ?restu50
  case hiu50 => simp only [List.getElem?_toArray, List.getElem?_cons_zero, List.getElem?_cons_succ]; rfl
  case hwu50 => rfl
  case hyu50 => (intro w9 hSw; (try dsimp only at hSw); go_simp; (try with_reducible rfl))
  case hQu50 => exact fun _ _ _ h => h
  (try simp only [Act.put, List.setIfInBounds_toArray, List.set_cons_zero, List.set_cons_succ])
  refine wpAnyH_take (i := 50) (oi := ?_) (v := ?_) ?hiu51 (by as_aux_lemma => kernel_rfl) (by as_aux_lemma => kernel_rfl) (by as_aux_lemma => kernel_rfl) ?hQu51 (Or.inl ⟨?hwu51, ?hyu51⟩) hHeld ?restu51
  case hiu51 => simp only [List.getElem?_toArray, List.getElem?_cons_zero, List.getElem?_cons_succ]; rfl
  case hwu51 => rfl
  case hyu51 => (intro w9 hSw; (try dsimp only at hSw); go_simp; (try with_reducible rfl))
  case hQu51 => exact fun _ _ _ h => h
  (try simp only [Act.put, List.setIfInBounds_toArray, List.set_cons_zero, List.set_cons_succ])
  refine wpAnyH_take (i := 51) (oi := ?_) (v := ?_) ?hiu52 (by as_aux_lemma => kernel_rfl) (by as_aux_lemma => kernel_rfl) (by as_aux_lemma => kernel_rfl) ?hQu52 (Or.inl ⟨?hwu52, ?hyu52⟩) hHeld ?restu52
  case hiu52 => simp only [List.getElem?_toArray, List.getElem?_cons_zero, List.getElem?_cons_succ]; rfl
  case hwu52 => rfl
  case hyu52 => (intro w9 hSw; (try dsimp only at hSw); go_simp; (try with_reducible rfl))
  case hQu52 => exact fun _ _ _ h => h
  (try simp only [Act.put, List.setIfInBounds_toArray, List.set_cons_zero, List.set_cons_succ])
  refine wpAnyH_take (i := 52) (oi := ?_) (v := ?_) ?hiu53 (by as_aux_lemma => kernel_rfl) (by as_aux_lemma => kernel_rfl) (by as_aux_lemma => kernel_rfl) ?hQu53 (Or.inl ⟨?hwu53, ?hyu53⟩) hHeld ?restu53
  case hiu53 => simp only [List.getElem?_toArray, List.getElem?_cons_zero, List.getElem?_cons_succ]; rfl
  case hwu53 => rfl
  case hyu53 => (intro w9 hSw; (try dsimp only at hSw); go_simp; (try with_reducible rfl))
  case hQu53 => exact fun _ _ _ h => h
  (try simp only [Act.put, List.setIfInBounds_toArray, List.set_cons_zero, List.set_cons_succ])
  refine wpAnyH_take (i := 53) (oi := ?_) (v := ?_) ?hiu54 (by as_aux_lemma => kernel_rfl) (by as_aux_lemma => kernel_rfl) (by as_aux_lemma => kernel_rfl) ?hQu54 (Or.inl ⟨?hwu54, ?hyu54⟩) hHeld ?restu54
  case hiu54 => simp only [List.getElem?_toArray, List.getElem?_cons_zero, List.getElem?_cons_succ]; rfl
  case hwu54 => rfl
  case hyu54 => (intro w9 hSw; (try dsimp only at hSw); go_simp; (try with_reducible rfl))
  case hQu54 => exact fun _ _ _ h => h
  (try simp only [Act.put, List.setIfInBounds_toArray, List.set_cons_zero, List.set_cons_succ])
  refine wpAnyH_take (i := 54) (oi := ?_) (v := ?_) ?hiu55 (by as_aux_lemma => kernel_rfl) (by as_aux_lemma => kernel_rfl) (by as_aux_lemma => kernel_rfl) ?hQu55 (Or.inl ⟨?hwu55, ?hyu55⟩) hHeld ?restu55
  case hiu55 => simp only [List.getElem?_toArray, List.getElem?_cons_zero, List.getElem?_cons_succ]; rfl
  case hwu55 => rfl
  case hyu55 => (intro w9 hSw; (try dsimp only at hSw); go_simp; (try with_reducible rfl))
  case hQu55 => exact fun _ _ _ h => h
  (try simp only [Act.put, List.setIfInBounds_toArray, List.set_cons_zero, List.set_cons_succ])
  refine wpAnyH_take (i := 55) (oi := ?_) (v := ?_) ?hiu56 (by as_aux_lemma => kernel_rfl) (by as_aux_lemma => kernel_rfl) (by as_aux_lemma => kernel_rfl) ?hQu56 (Or.inl ⟨?hwu56, ?hyu56⟩) hHeld ?restu56
  case hiu56 => simp only [List.getElem?_toArray, List.getElem?_cons_zero, List.getElem?_cons_succ]; rfl
  case hwu56 => rfl
  case hyu56 => (intro w9 hSw; (try dsimp only at hSw); go_simp; (try with_reducible rfl))
  case hQu56 => exact fun _ _ _ h => h
  (try simp only [Act.put, List.setIfInBounds_toArray, List.set_cons_zero, List.set_cons_succ])
  refine wpAnyH_take (i := 56) (oi := ?_) (v := ?_) ?hiu57 (by as_aux_lemma => kernel_rfl) (by as_aux_lemma => kernel_rfl) (by as_aux_lemma => kernel_rfl) ?hQu57 (Or.inl ⟨?hwu57, ?hyu57⟩) hHeld ?restu57
  case hiu57 => simp only [List.getElem?_toArray, List.getElem?_cons_zero, List.getElem?_cons_succ]; rfl
  case hwu57 => rfl
  case hyu57 => (intro w9 hSw; (try dsimp only at hSw); go_simp; (try with_reducible rfl))
  case hQu57 => exact fun _ _ _ h => h
  (try simp only [Act.put, List.setIfInBounds_toArray, List.set_cons_zero, List.set_cons_succ])
  refine wpAnyH_take (i := 57) (oi := ?_) (v := ?_) ?hiu58 (by as_aux_lemma => kernel_rfl) (by as_aux_lemma => kernel_rfl) (by as_aux_lemma => kernel_rfl) ?hQu58 (Or.inl ⟨?hwu58, ?hyu58⟩) hHeld ?restu58
  case hiu58 => simp only [List.getElem?_toArray, List.getElem?_cons_zero, List.getElem?_cons_succ]; rfl
  case hwu58 => rfl
  case hyu58 => (intro w9 hSw; (try dsimp only at hSw); go_simp; (try with_reducible rfl))
  case hQu58 => exact fun _ _ _ h => h
  (try simp only [Act.put, List.setIfInBounds_toArray, List.set_cons_zero, List.set_cons_succ])
  refine wpAnyH_take (i := 58) (oi := ?_) (v := ?_) ?hiu59 (by as_aux_lemma => kernel_rfl) (by as_aux_lemma => kernel_rfl) (by as_aux_lemma => kernel_rfl) ?hQu59 (Or.inl ⟨?hwu59, ?hyu59⟩) hHeld ?restu59
  case hiu59 => simp only [List.getElem?_toArray, List.getElem?_cons_zero, List.getElem?_cons_succ]; rfl
  case hwu59 => rfl
  case hyu59 => (intro w9 hSw; (try dsimp only at hSw); go_simp; (try with_reducible rfl))
  case hQu59 => exact fun _ _ _ h => h
  (try simp only [Act.put, List.setIfInBounds_toArray, List.set_cons_zero, List.set_cons_succ])
  refine wpAnyH_done (by kernel_rfl) ?_ _
  have HBE := Lib.hid (bT HB3.out hHeld.1)
  clear hHeld hS
  go_wp2
  go_ret
  exact ⟨rfl, HBE.out⟩
end Go.Proofs.Ythejnlelegcgfaa
