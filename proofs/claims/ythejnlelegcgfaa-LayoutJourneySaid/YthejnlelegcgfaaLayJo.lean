/- Layer 13's law LayoutJourney: of two journeys of a ticket only the four digits differ that tell them. Condition: the numbers are Go's ints. -/
import Derived.Test.YthejnlelegcgfaaLayJoPure
namespace Go.Proofs.Ythejnlelegcgfaa
open Go.RowKit
set_option linter.unusedVariables false
set_option linter.unusedSimpArgs false

set_option maxHeartbeats 4000000 in
set_option maxRecDepth 100000 in
theorem layoutJourney_no1 (a0 a1 a2 a3 a4 a5 a6 a7 a8 a9 a10 a11 a12 a13 a14 b c : Int) (l1 l2 : List Int) (e1 e2 : Int) (w : World) (hv : ∀ x ∈ [a0, a1, a2, a3, a4, a5, a6, a7, a8, a9, a10, a11, a12, a13, a14], x ≤ 9223372036854775807) (hv2 : ∀ x ∈ [a0, a1, a2, a3, a4, a5, a6, a7, a8, a9, a10, a11, b, c, a14], x ≤ 9223372036854775807)
    (hr1 : layR (tkB a0 a1 a2 a3 a4 a5 a6 a7 a8 a9 a10) [a0, a1, a2, a3, a4, a5, a6, a7, a8, a9, a10, a11, a12, a13, a14] = (l1, e1)) (hr2 : layR (tkB a0 a1 a2 a3 a4 a5 a6 a7 a8 a9 a10) [a0, a1, a2, a3, a4, a5, a6, a7, a8, a9, a10, a11, b, c, a14] = (l2, e2)) (d1 : (e1 != 0) = true) :
    Calls Try.prog 17 #[.agg #[.int .i64 a0, .int .i64 a1, .int .i64 a2, .int .i64 a3, .int .i64 a4, .int .i64 a5, .int .i64 a6, .int .i64 a7, .int .i64 a8, .int .i64 a9, .int .i64 a10, .int .i64 a11, .int .i64 a12, .int .i64 a13, .int .i64 a14], .agg #[.int .i64 b, .int .i64 c]] w fun e w' => e = .returned (.bool true) ∧ Below w.heap.size w w' := by
  go_enter Try.func17, Try.ntmps17
  go_wp2_with fail
  obtain ⟨w0, hw0⟩ : ∃ w0, (w.alloc (.cells #[.int .i64 a0, .int .i64 a1, .int .i64 a2, .int .i64 a3, .int .i64 a4, .int .i64 a5, .int .i64 a6, .int .i64 a7, .int .i64 a8, .int .i64 a9, .int .i64 a10, .int .i64 a11, .int .i64 a12, .int .i64 a13, .int .i64 a14] 52)).alloc (.cells #[.int .i64 b, .int .i64 c] 50) = w0 := ⟨_, rfl⟩
  have hA0 : w0.heap[w.heap.size]? = some (.cells #[.int .i64 a0, .int .i64 a1, .int .i64 a2, .int .i64 a3, .int .i64 a4, .int .i64 a5, .int .i64 a6, .int .i64 a7, .int .i64 a8, .int .i64 a9, .int .i64 a10, .int .i64 a11, .int .i64 a12, .int .i64 a13, .int .i64 a14] 52 (0, 0)) := by rw [← hw0]; exact (Below.heap_alloc _ _ _ (by simp)).trans (heap_alloc_new w _)
  have hD0 : w0.heap[w.heap.size + 1]? = some (.cells #[.int .i64 b, .int .i64 c] 50 (0, 0)) := by rw [← hw0]; have h := heap_alloc_new (w.alloc (.cells #[.int .i64 a0, .int .i64 a1, .int .i64 a2, .int .i64 a3, .int .i64 a4, .int .i64 a5, .int .i64 a6, .int .i64 a7, .int .i64 a8, .int .i64 a9, .int .i64 a10, .int .i64 a11, .int .i64 a12, .int .i64 a13, .int .i64 a14] 52)) (.cells #[.int .i64 b, .int .i64 c] 50); simpa using h
  have hB0 : Below w.heap.size w w0 := by rw [← hw0]; exact bA (bel1 w _) _
  rw [hw0]
  have HW0 := Lib.hid hw0
  have hsA := (Array.getElem?_eq_some_iff.1 hA0).1
  have hsD := (Array.getElem?_eq_some_iff.1 hD0).1
  clear hw0
  have P1 := layPut_any a0 a1 a2 a3 a4 a5 a6 a7 a8 a9 a10 a11 a12 a13 a14 w0 hv
  rw [hr1] at P1
  refine P1.mono ?_
  rintro e w1 ⟨u, rfl, uo, hb1⟩
  clear P1
  obtain ⟨uA, uc, rfl, hu1, hu2⟩ := own_slice uo
  have ur := RdI.of_own uo
  unfold maxLen at hu2
  have hune : ∀ ad, uA = some ad → ad.block ≠ w.heap.size := by intro ad e; have := own_ge uo ad.block (by rw [e]; rfl); omega
  have hA1 := (hb1.block _ hsA).trans hA0
  have hD1 := (hb1.block _ hsD).trans hD0
  have HB1 := Lib.hid (bT hB0 hb1)
  have hX1 : w.heap.size < w1.heap.size ∧ w1.cell? ⟨w.heap.size, 0, none⟩ = some (.int .i64 a0) ∧ w1.cell? ⟨w.heap.size, 1, none⟩ = some (.int .i64 a1) ∧ w1.cell? ⟨w.heap.size, 2, none⟩ = some (.int .i64 a2) ∧ w1.cell? ⟨w.heap.size, 3, none⟩ = some (.int .i64 a3) ∧ w1.cell? ⟨w.heap.size, 4, none⟩ = some (.int .i64 a4) ∧ w1.cell? ⟨w.heap.size, 5, none⟩ = some (.int .i64 a5) ∧ w1.cell? ⟨w.heap.size, 6, none⟩ = some (.int .i64 a6) ∧ w1.cell? ⟨w.heap.size, 7, none⟩ = some (.int .i64 a7) ∧ w1.cell? ⟨w.heap.size, 8, none⟩ = some (.int .i64 a8) ∧ w1.cell? ⟨w.heap.size, 9, none⟩ = some (.int .i64 a9) ∧ w1.cell? ⟨w.heap.size, 10, none⟩ = some (.int .i64 a10) ∧ w1.cell? ⟨w.heap.size, 11, none⟩ = some (.int .i64 a11) ∧ w1.cell? ⟨w.heap.size, 12, none⟩ = some (.int .i64 a12) ∧ w1.cell? ⟨w.heap.size, 13, none⟩ = some (.int .i64 a13) ∧ w1.cell? ⟨w.heap.size, 14, none⟩ = some (.int .i64 a14) := ⟨(Array.getElem?_eq_some_iff.1 hA1).1, (cell_of_row _ _ 0 _ _ _ hA1).trans rfl, (cell_of_row _ _ 1 _ _ _ hA1).trans rfl, (cell_of_row _ _ 2 _ _ _ hA1).trans rfl, (cell_of_row _ _ 3 _ _ _ hA1).trans rfl, (cell_of_row _ _ 4 _ _ _ hA1).trans rfl, (cell_of_row _ _ 5 _ _ _ hA1).trans rfl, (cell_of_row _ _ 6 _ _ _ hA1).trans rfl, (cell_of_row _ _ 7 _ _ _ hA1).trans rfl, (cell_of_row _ _ 8 _ _ _ hA1).trans rfl, (cell_of_row _ _ 9 _ _ _ hA1).trans rfl, (cell_of_row _ _ 10 _ _ _ hA1).trans rfl, (cell_of_row _ _ 11 _ _ _ hA1).trans rfl, (cell_of_row _ _ 12 _ _ _ hA1).trans rfl, (cell_of_row _ _ 13 _ _ _ hA1).trans rfl, (cell_of_row _ _ 14 _ _ _ hA1).trans rfl⟩
  have hf1 : ∀ o, w1.frozen? ⟨w.heap.size, o, none⟩ = false := by intro o; simp [World.frozen?, hA1]
  have hj0 : w1.cell? ⟨w.heap.size + 1, 0, none⟩ = some (.int .i64 b) := (cell_of_row _ _ 0 _ _ _ hD1).trans rfl
  have hj1 : w1.cell? ⟨w.heap.size + 1, 1, none⟩ = some (.int .i64 c) := (cell_of_row _ _ 1 _ _ _ hD1).trans rfl
  have HA1 := Lib.hid hA1
  have HD1 := Lib.hid hD1
  clear uo hb1 hA0 hD0 hB0 hA1 hD1 hsA hsD
  go_wp2_with fail
  obtain ⟨w2, hw2⟩ : ∃ w2, (w1.setCell ⟨w.heap.size, 12, none⟩ (.int .i64 b)).setCell ⟨w.heap.size, 13, none⟩ (.int .i64 c) = w2 := ⟨_, rfl⟩
  have hA2 : w2.heap[w.heap.size]? = some (.cells #[.int .i64 a0, .int .i64 a1, .int .i64 a2, .int .i64 a3, .int .i64 a4, .int .i64 a5, .int .i64 a6, .int .i64 a7, .int .i64 a8, .int .i64 a9, .int .i64 a10, .int .i64 a11, .int .i64 b, .int .i64 c, .int .i64 a14] 52 (0, 0)) := by rw [← hw2]; exact row_set (row_set HA1.out 12 _) 13 _
  have hD2 : w2.heap[w.heap.size + 1]? = some (.cells #[.int .i64 b, .int .i64 c] 50 (0, 0)) := by rw [← hw2]; exact ((Below.heap_setCell _ _ _ _ (by show w.heap.size + 1 ≠ w.heap.size; omega)).trans (Below.heap_setCell _ _ _ _ (by show w.heap.size + 1 ≠ w.heap.size; omega))).trans HD1.out
  have hB2 : Below w.heap.size w w2 := by rw [← hw2]; exact bS (bS HB1.out (Nat.le_refl _)) (Nat.le_refl _)
  replace ur : RdI w2 .u8 uA l1 := by rw [← hw2]; exact RdI.setCell (RdI.setCell ur hune) hune
  rw [hw2]
  have HW2 := Lib.hid hw2
  have hsA := (Array.getElem?_eq_some_iff.1 hA2).1
  have hsD := (Array.getElem?_eq_some_iff.1 hD2).1
  clear hw2 hX1 hf1 hj0 hj1 HA1 HD1
  have P2 := layPut_any a0 a1 a2 a3 a4 a5 a6 a7 a8 a9 a10 a11 b c a14 w2 hv2
  rw [hr2] at P2
  refine P2.mono ?_
  rintro e w3 ⟨v, rfl, vo, hb3⟩
  clear P2
  obtain ⟨vA, vc, rfl, hv1, hv2'⟩ := own_slice vo
  have vr := RdI.of_own vo
  unfold maxLen at hv2'
  have hA3 := (hb3.block _ hsA).trans hA2
  have hD3 := (hb3.block _ hsD).trans hD2
  have HB3 := Lib.hid (bT hB2 hb3)
  replace ur := ur.below hb3
  clear vo hb3 hA2 hD2 hB2 hsA hsD hune
  clear ur vr hA3 hD3
  go_wp2_with fail
  refine (laid_any _).mono ?_
  rintro e w4 ⟨rfl, hb4⟩
  go_wp2
  go_ret
  exact ⟨rfl, bT HB3.out hb4⟩

set_option maxHeartbeats 4000000 in
set_option maxRecDepth 100000 in
theorem layoutJourney_no2 (a0 a1 a2 a3 a4 a5 a6 a7 a8 a9 a10 a11 a12 a13 a14 b c : Int) (l1 l2 : List Int) (e1 e2 : Int) (w : World) (hv : ∀ x ∈ [a0, a1, a2, a3, a4, a5, a6, a7, a8, a9, a10, a11, a12, a13, a14], x ≤ 9223372036854775807) (hv2 : ∀ x ∈ [a0, a1, a2, a3, a4, a5, a6, a7, a8, a9, a10, a11, b, c, a14], x ≤ 9223372036854775807)
    (hr1 : layR (tkB a0 a1 a2 a3 a4 a5 a6 a7 a8 a9 a10) [a0, a1, a2, a3, a4, a5, a6, a7, a8, a9, a10, a11, a12, a13, a14] = (l1, e1)) (hr2 : layR (tkB a0 a1 a2 a3 a4 a5 a6 a7 a8 a9 a10) [a0, a1, a2, a3, a4, a5, a6, a7, a8, a9, a10, a11, b, c, a14] = (l2, e2)) (d1 : (e1 != 0) = false) (d2 : (e2 != 0) = true) :
    Calls Try.prog 17 #[.agg #[.int .i64 a0, .int .i64 a1, .int .i64 a2, .int .i64 a3, .int .i64 a4, .int .i64 a5, .int .i64 a6, .int .i64 a7, .int .i64 a8, .int .i64 a9, .int .i64 a10, .int .i64 a11, .int .i64 a12, .int .i64 a13, .int .i64 a14], .agg #[.int .i64 b, .int .i64 c]] w fun e w' => e = .returned (.bool true) ∧ Below w.heap.size w w' := by
  go_enter Try.func17, Try.ntmps17
  go_wp2_with fail
  obtain ⟨w0, hw0⟩ : ∃ w0, (w.alloc (.cells #[.int .i64 a0, .int .i64 a1, .int .i64 a2, .int .i64 a3, .int .i64 a4, .int .i64 a5, .int .i64 a6, .int .i64 a7, .int .i64 a8, .int .i64 a9, .int .i64 a10, .int .i64 a11, .int .i64 a12, .int .i64 a13, .int .i64 a14] 52)).alloc (.cells #[.int .i64 b, .int .i64 c] 50) = w0 := ⟨_, rfl⟩
  have hA0 : w0.heap[w.heap.size]? = some (.cells #[.int .i64 a0, .int .i64 a1, .int .i64 a2, .int .i64 a3, .int .i64 a4, .int .i64 a5, .int .i64 a6, .int .i64 a7, .int .i64 a8, .int .i64 a9, .int .i64 a10, .int .i64 a11, .int .i64 a12, .int .i64 a13, .int .i64 a14] 52 (0, 0)) := by rw [← hw0]; exact (Below.heap_alloc _ _ _ (by simp)).trans (heap_alloc_new w _)
  have hD0 : w0.heap[w.heap.size + 1]? = some (.cells #[.int .i64 b, .int .i64 c] 50 (0, 0)) := by rw [← hw0]; have h := heap_alloc_new (w.alloc (.cells #[.int .i64 a0, .int .i64 a1, .int .i64 a2, .int .i64 a3, .int .i64 a4, .int .i64 a5, .int .i64 a6, .int .i64 a7, .int .i64 a8, .int .i64 a9, .int .i64 a10, .int .i64 a11, .int .i64 a12, .int .i64 a13, .int .i64 a14] 52)) (.cells #[.int .i64 b, .int .i64 c] 50); simpa using h
  have hB0 : Below w.heap.size w w0 := by rw [← hw0]; exact bA (bel1 w _) _
  rw [hw0]
  have HW0 := Lib.hid hw0
  have hsA := (Array.getElem?_eq_some_iff.1 hA0).1
  have hsD := (Array.getElem?_eq_some_iff.1 hD0).1
  clear hw0
  have P1 := layPut_any a0 a1 a2 a3 a4 a5 a6 a7 a8 a9 a10 a11 a12 a13 a14 w0 hv
  rw [hr1] at P1
  refine P1.mono ?_
  rintro e w1 ⟨u, rfl, uo, hb1⟩
  clear P1
  obtain ⟨uA, uc, rfl, hu1, hu2⟩ := own_slice uo
  have ur := RdI.of_own uo
  unfold maxLen at hu2
  have hune : ∀ ad, uA = some ad → ad.block ≠ w.heap.size := by intro ad e; have := own_ge uo ad.block (by rw [e]; rfl); omega
  have hA1 := (hb1.block _ hsA).trans hA0
  have hD1 := (hb1.block _ hsD).trans hD0
  have HB1 := Lib.hid (bT hB0 hb1)
  have hX1 : w.heap.size < w1.heap.size ∧ w1.cell? ⟨w.heap.size, 0, none⟩ = some (.int .i64 a0) ∧ w1.cell? ⟨w.heap.size, 1, none⟩ = some (.int .i64 a1) ∧ w1.cell? ⟨w.heap.size, 2, none⟩ = some (.int .i64 a2) ∧ w1.cell? ⟨w.heap.size, 3, none⟩ = some (.int .i64 a3) ∧ w1.cell? ⟨w.heap.size, 4, none⟩ = some (.int .i64 a4) ∧ w1.cell? ⟨w.heap.size, 5, none⟩ = some (.int .i64 a5) ∧ w1.cell? ⟨w.heap.size, 6, none⟩ = some (.int .i64 a6) ∧ w1.cell? ⟨w.heap.size, 7, none⟩ = some (.int .i64 a7) ∧ w1.cell? ⟨w.heap.size, 8, none⟩ = some (.int .i64 a8) ∧ w1.cell? ⟨w.heap.size, 9, none⟩ = some (.int .i64 a9) ∧ w1.cell? ⟨w.heap.size, 10, none⟩ = some (.int .i64 a10) ∧ w1.cell? ⟨w.heap.size, 11, none⟩ = some (.int .i64 a11) ∧ w1.cell? ⟨w.heap.size, 12, none⟩ = some (.int .i64 a12) ∧ w1.cell? ⟨w.heap.size, 13, none⟩ = some (.int .i64 a13) ∧ w1.cell? ⟨w.heap.size, 14, none⟩ = some (.int .i64 a14) := ⟨(Array.getElem?_eq_some_iff.1 hA1).1, (cell_of_row _ _ 0 _ _ _ hA1).trans rfl, (cell_of_row _ _ 1 _ _ _ hA1).trans rfl, (cell_of_row _ _ 2 _ _ _ hA1).trans rfl, (cell_of_row _ _ 3 _ _ _ hA1).trans rfl, (cell_of_row _ _ 4 _ _ _ hA1).trans rfl, (cell_of_row _ _ 5 _ _ _ hA1).trans rfl, (cell_of_row _ _ 6 _ _ _ hA1).trans rfl, (cell_of_row _ _ 7 _ _ _ hA1).trans rfl, (cell_of_row _ _ 8 _ _ _ hA1).trans rfl, (cell_of_row _ _ 9 _ _ _ hA1).trans rfl, (cell_of_row _ _ 10 _ _ _ hA1).trans rfl, (cell_of_row _ _ 11 _ _ _ hA1).trans rfl, (cell_of_row _ _ 12 _ _ _ hA1).trans rfl, (cell_of_row _ _ 13 _ _ _ hA1).trans rfl, (cell_of_row _ _ 14 _ _ _ hA1).trans rfl⟩
  have hf1 : ∀ o, w1.frozen? ⟨w.heap.size, o, none⟩ = false := by intro o; simp [World.frozen?, hA1]
  have hj0 : w1.cell? ⟨w.heap.size + 1, 0, none⟩ = some (.int .i64 b) := (cell_of_row _ _ 0 _ _ _ hD1).trans rfl
  have hj1 : w1.cell? ⟨w.heap.size + 1, 1, none⟩ = some (.int .i64 c) := (cell_of_row _ _ 1 _ _ _ hD1).trans rfl
  have HA1 := Lib.hid hA1
  have HD1 := Lib.hid hD1
  clear uo hb1 hA0 hD0 hB0 hA1 hD1 hsA hsD
  go_wp2_with fail
  obtain ⟨w2, hw2⟩ : ∃ w2, (w1.setCell ⟨w.heap.size, 12, none⟩ (.int .i64 b)).setCell ⟨w.heap.size, 13, none⟩ (.int .i64 c) = w2 := ⟨_, rfl⟩
  have hA2 : w2.heap[w.heap.size]? = some (.cells #[.int .i64 a0, .int .i64 a1, .int .i64 a2, .int .i64 a3, .int .i64 a4, .int .i64 a5, .int .i64 a6, .int .i64 a7, .int .i64 a8, .int .i64 a9, .int .i64 a10, .int .i64 a11, .int .i64 b, .int .i64 c, .int .i64 a14] 52 (0, 0)) := by rw [← hw2]; exact row_set (row_set HA1.out 12 _) 13 _
  have hD2 : w2.heap[w.heap.size + 1]? = some (.cells #[.int .i64 b, .int .i64 c] 50 (0, 0)) := by rw [← hw2]; exact ((Below.heap_setCell _ _ _ _ (by show w.heap.size + 1 ≠ w.heap.size; omega)).trans (Below.heap_setCell _ _ _ _ (by show w.heap.size + 1 ≠ w.heap.size; omega))).trans HD1.out
  have hB2 : Below w.heap.size w w2 := by rw [← hw2]; exact bS (bS HB1.out (Nat.le_refl _)) (Nat.le_refl _)
  replace ur : RdI w2 .u8 uA l1 := by rw [← hw2]; exact RdI.setCell (RdI.setCell ur hune) hune
  rw [hw2]
  have HW2 := Lib.hid hw2
  have hsA := (Array.getElem?_eq_some_iff.1 hA2).1
  have hsD := (Array.getElem?_eq_some_iff.1 hD2).1
  clear hw2 hX1 hf1 hj0 hj1 HA1 HD1
  have P2 := layPut_any a0 a1 a2 a3 a4 a5 a6 a7 a8 a9 a10 a11 b c a14 w2 hv2
  rw [hr2] at P2
  refine P2.mono ?_
  rintro e w3 ⟨v, rfl, vo, hb3⟩
  clear P2
  obtain ⟨vA, vc, rfl, hv1, hv2'⟩ := own_slice vo
  have vr := RdI.of_own vo
  unfold maxLen at hv2'
  have hA3 := (hb3.block _ hsA).trans hA2
  have hD3 := (hb3.block _ hsD).trans hD2
  have HB3 := Lib.hid (bT hB2 hb3)
  replace ur := ur.below hb3
  clear vo hb3 hA2 hD2 hB2 hsA hsD hune
  clear ur vr hA3 hD3
  go_wp2_with fail
  refine (laid_any _).mono ?_
  rintro e w4 ⟨rfl, hb4⟩
  go_wp2
  go_ret
  exact ⟨rfl, bT HB3.out hb4⟩
end Go.Proofs.Ythejnlelegcgfaa
