/- Layer 13's law LayoutBack: what was put is got again, and what was got is right, and put as it was. Condition: the digits are bytes, in a row of Go's size; the numbers are Go's ints. -/
import Derived.Test.YthejnlelegcgfaaLayPure
namespace Go.Proofs.Ythejnlelegcgfaa
open Go.RowKit
set_option linter.unusedVariables false
set_option linter.unusedSimpArgs false

set_option maxHeartbeats 4000000 in
set_option maxRecDepth 100000 in
theorem layoutBack_ok1 (a0 a1 a2 a3 a4 a5 a6 a7 a8 a9 a10 a11 a12 a13 a14 : Int) (A : Option Addr) (c : Nat) (l l1 : List Int) (e1 : Int) (w : World) (hv : ∀ x ∈ [a0, a1, a2, a3, a4, a5, a6, a7, a8, a9, a10, a11, a12, a13, a14], x ≤ 9223372036854775807) (hr : RdI w .u8 A l) (hlc : l.length ≤ c) (hc9 : c ≤ 9223372036854775807) (hb : ∀ x ∈ l, 0 ≤ x ∧ x < 256)
    (hrr : layR (tkB a0 a1 a2 a3 a4 a5 a6 a7 a8 a9 a10) [a0, a1, a2, a3, a4, a5, a6, a7, a8, a9, a10, a11, a12, a13, a14] = (l1, 0)) (hl : 1000 < l.length) :
    Calls Try.prog 15 #[.agg #[.int .i64 a0, .int .i64 a1, .int .i64 a2, .int .i64 a3, .int .i64 a4, .int .i64 a5, .int .i64 a6, .int .i64 a7, .int .i64 a8, .int .i64 a9, .int .i64 a10, .int .i64 a11, .int .i64 a12, .int .i64 a13, .int .i64 a14], .slice A l.length c] w fun e w' => e = .returned (.bool true) ∧ Below w.heap.size w w' := by
  have hg := lay_get hrr
  have hub := layR_byte hrr
  have d1 : decide (1000 < (l.length : Int)) = true := by simpa using (show (1000 : Int) < l.length by omega)
  go_enter Try.func15, Try.ntmps15
  go_wp2_with fail
  have P1 := layPut_any a0 a1 a2 a3 a4 a5 a6 a7 a8 a9 a10 a11 a12 a13 a14 (w.alloc (.cells #[.int .i64 a0, .int .i64 a1, .int .i64 a2, .int .i64 a3, .int .i64 a4, .int .i64 a5, .int .i64 a6, .int .i64 a7, .int .i64 a8, .int .i64 a9, .int .i64 a10, .int .i64 a11, .int .i64 a12, .int .i64 a13, .int .i64 a14] 52)) hv
  rw [hrr] at P1
  refine P1.mono ?_
  rintro e w1 ⟨u, rfl, uo, hb1⟩
  clear P1
  obtain ⟨uA, uc, rfl, hu1, hu2⟩ := own_slice uo
  have ur := RdI.of_own uo
  unfold maxLen at hu2
  have hR1 : w1.heap[w.heap.size]? = some (.cells #[.int .i64 a0, .int .i64 a1, .int .i64 a2, .int .i64 a3, .int .i64 a4, .int .i64 a5, .int .i64 a6, .int .i64 a7, .int .i64 a8, .int .i64 a9, .int .i64 a10, .int .i64 a11, .int .i64 a12, .int .i64 a13, .int .i64 a14] 52 (0, 0)) := (hb1.block w.heap.size (by simp)).trans (heap_alloc_new w _)
  have hB1 := bT (bel1 w _) hb1
  have hC1 : w.heap.size < w1.heap.size ∧ w1.cell? ⟨w.heap.size, 0, none⟩ = some (.int .i64 a0) ∧ w1.cell? ⟨w.heap.size, 1, none⟩ = some (.int .i64 a1) ∧ w1.cell? ⟨w.heap.size, 2, none⟩ = some (.int .i64 a2) ∧ w1.cell? ⟨w.heap.size, 3, none⟩ = some (.int .i64 a3) ∧ w1.cell? ⟨w.heap.size, 4, none⟩ = some (.int .i64 a4) ∧ w1.cell? ⟨w.heap.size, 5, none⟩ = some (.int .i64 a5) ∧ w1.cell? ⟨w.heap.size, 6, none⟩ = some (.int .i64 a6) ∧ w1.cell? ⟨w.heap.size, 7, none⟩ = some (.int .i64 a7) ∧ w1.cell? ⟨w.heap.size, 8, none⟩ = some (.int .i64 a8) ∧ w1.cell? ⟨w.heap.size, 9, none⟩ = some (.int .i64 a9) ∧ w1.cell? ⟨w.heap.size, 10, none⟩ = some (.int .i64 a10) ∧ w1.cell? ⟨w.heap.size, 11, none⟩ = some (.int .i64 a11) ∧ w1.cell? ⟨w.heap.size, 12, none⟩ = some (.int .i64 a12) ∧ w1.cell? ⟨w.heap.size, 13, none⟩ = some (.int .i64 a13) ∧ w1.cell? ⟨w.heap.size, 14, none⟩ = some (.int .i64 a14) := ⟨(Array.getElem?_eq_some_iff.1 hR1).1, (cell_of_row _ _ 0 _ _ _ hR1).trans rfl, (cell_of_row _ _ 1 _ _ _ hR1).trans rfl, (cell_of_row _ _ 2 _ _ _ hR1).trans rfl, (cell_of_row _ _ 3 _ _ _ hR1).trans rfl, (cell_of_row _ _ 4 _ _ _ hR1).trans rfl, (cell_of_row _ _ 5 _ _ _ hR1).trans rfl, (cell_of_row _ _ 6 _ _ _ hR1).trans rfl, (cell_of_row _ _ 7 _ _ _ hR1).trans rfl, (cell_of_row _ _ 8 _ _ _ hR1).trans rfl, (cell_of_row _ _ 9 _ _ _ hR1).trans rfl, (cell_of_row _ _ 10 _ _ _ hR1).trans rfl, (cell_of_row _ _ 11 _ _ _ hR1).trans rfl, (cell_of_row _ _ 12 _ _ _ hR1).trans rfl, (cell_of_row _ _ 13 _ _ _ hR1).trans rfl, (cell_of_row _ _ 14 _ _ _ hR1).trans rfl⟩
  replace hr := (hr.below (bel1 w _)).below hb1
  clear uo hb1 hR1
  have HB3 := Lib.hid hB1
  go_wp2_with fail
  have P2 := layGet_any uA uc l1 w1 ur hu1 (by omega) hub
  rw [hg] at P2
  refine P2.mono ?_
  rintro e w2 ⟨rfl, hb2⟩
  clear P2 HB3
  have hC2 := sh_below hC1 hb2
  have hB2 := bT hB1 hb2
  replace hr := hr.below hb2
  clear hC1 hB1 hb2 ur
  go_wp2_with fail
  obtain ⟨w3, hww3⟩ : ∃ w3, w2.alloc (.cells #[.int .i64 a0, .int .i64 a1, .int .i64 a2, .int .i64 a3, .int .i64 a4, .int .i64 a5, .int .i64 a6, .int .i64 a7, .int .i64 a8, .int .i64 a9, .int .i64 a10, .int .i64 a11, .int .i64 a12, .int .i64 a13, .int .i64 a14] 52) = w3 := ⟨_, rfl⟩
  have hnw3 : w3.heap[w2.heap.size]? = some (.cells #[.int .i64 a0, .int .i64 a1, .int .i64 a2, .int .i64 a3, .int .i64 a4, .int .i64 a5, .int .i64 a6, .int .i64 a7, .int .i64 a8, .int .i64 a9, .int .i64 a10, .int .i64 a11, .int .i64 a12, .int .i64 a13, .int .i64 a14] 52 (0, 0)) := by rw [← hww3]; exact heap_alloc_new _ _
  have hbw3 : Below w2.heap.size w2 w3 := by rw [← hww3]; exact bel1 _ _
  have hCw3 : w2.heap.size < w3.heap.size ∧ w3.cell? ⟨w2.heap.size, 0, none⟩ = some (.int .i64 a0) ∧ w3.cell? ⟨w2.heap.size, 1, none⟩ = some (.int .i64 a1) ∧ w3.cell? ⟨w2.heap.size, 2, none⟩ = some (.int .i64 a2) ∧ w3.cell? ⟨w2.heap.size, 3, none⟩ = some (.int .i64 a3) ∧ w3.cell? ⟨w2.heap.size, 4, none⟩ = some (.int .i64 a4) ∧ w3.cell? ⟨w2.heap.size, 5, none⟩ = some (.int .i64 a5) ∧ w3.cell? ⟨w2.heap.size, 6, none⟩ = some (.int .i64 a6) ∧ w3.cell? ⟨w2.heap.size, 7, none⟩ = some (.int .i64 a7) ∧ w3.cell? ⟨w2.heap.size, 8, none⟩ = some (.int .i64 a8) ∧ w3.cell? ⟨w2.heap.size, 9, none⟩ = some (.int .i64 a9) ∧ w3.cell? ⟨w2.heap.size, 10, none⟩ = some (.int .i64 a10) ∧ w3.cell? ⟨w2.heap.size, 11, none⟩ = some (.int .i64 a11) ∧ w3.cell? ⟨w2.heap.size, 12, none⟩ = some (.int .i64 a12) ∧ w3.cell? ⟨w2.heap.size, 13, none⟩ = some (.int .i64 a13) ∧ w3.cell? ⟨w2.heap.size, 14, none⟩ = some (.int .i64 a14) := ⟨(Array.getElem?_eq_some_iff.1 hnw3).1, (cell_of_row _ _ 0 _ _ _ hnw3).trans rfl, (cell_of_row _ _ 1 _ _ _ hnw3).trans rfl, (cell_of_row _ _ 2 _ _ _ hnw3).trans rfl, (cell_of_row _ _ 3 _ _ _ hnw3).trans rfl, (cell_of_row _ _ 4 _ _ _ hnw3).trans rfl, (cell_of_row _ _ 5 _ _ _ hnw3).trans rfl, (cell_of_row _ _ 6 _ _ _ hnw3).trans rfl, (cell_of_row _ _ 7 _ _ _ hnw3).trans rfl, (cell_of_row _ _ 8 _ _ _ hnw3).trans rfl, (cell_of_row _ _ 9 _ _ _ hnw3).trans rfl, (cell_of_row _ _ 10 _ _ _ hnw3).trans rfl, (cell_of_row _ _ 11 _ _ _ hnw3).trans rfl, (cell_of_row _ _ 12 _ _ _ hnw3).trans rfl, (cell_of_row _ _ 13 _ _ _ hnw3).trans rfl, (cell_of_row _ _ 14 _ _ _ hnw3).trans rfl⟩
  rw [hww3]
  have HWw3 := Lib.hid hww3
  clear hww3
  have hC3 := sh_below hC2 hbw3
  have hB3 := bT hB2 hbw3
  have HB3 := Lib.hid hB3
  replace hr := hr.below hbw3
  clear hC2 hB2 hbw3 hnw3 HWw3 hCw3
  refine (laid_any _).mono ?_
  rintro e w4 ⟨rfl, hb4⟩
  go_wp2
  go_ret
  exact ⟨rfl, bT HB3.out hb4⟩

set_option maxHeartbeats 4000000 in
set_option maxRecDepth 100000 in
theorem layoutBack_ok2 (a0 a1 a2 a3 a4 a5 a6 a7 a8 a9 a10 a11 a12 a13 a14 : Int) (A : Option Addr) (c : Nat) (l l1 : List Int) (e1 : Int) (w : World) (hv : ∀ x ∈ [a0, a1, a2, a3, a4, a5, a6, a7, a8, a9, a10, a11, a12, a13, a14], x ≤ 9223372036854775807) (hr : RdI w .u8 A l) (hlc : l.length ≤ c) (hc9 : c ≤ 9223372036854775807) (hb : ∀ x ∈ l, 0 ≤ x ∧ x < 256)
    (hrr : layR (tkB a0 a1 a2 a3 a4 a5 a6 a7 a8 a9 a10) [a0, a1, a2, a3, a4, a5, a6, a7, a8, a9, a10, a11, a12, a13, a14] = (l1, 0)) (hl : ¬ 1000 < l.length) (hf : ¬ (layG l).2 = 0) :
    Calls Try.prog 15 #[.agg #[.int .i64 a0, .int .i64 a1, .int .i64 a2, .int .i64 a3, .int .i64 a4, .int .i64 a5, .int .i64 a6, .int .i64 a7, .int .i64 a8, .int .i64 a9, .int .i64 a10, .int .i64 a11, .int .i64 a12, .int .i64 a13, .int .i64 a14], .slice A l.length c] w fun e w' => e = .returned (.bool true) ∧ Below w.heap.size w w' := by
  have hg := lay_get hrr
  have hub := layR_byte hrr
  have d1 : decide (1000 < (l.length : Int)) = false := by simpa using (show ¬ (1000 : Int) < l.length by omega)
  obtain ⟨f, hfe⟩ : ∃ f, (layG l).2 = f := ⟨_, rfl⟩
  have hG : layG l = ([0, 0, 0, 0, 0, 0, 0, 0, 0, 0, 0, 0, 0, 0, 0], f) := Prod.ext (layG_fail hf) hfe
  have d2 : (f != 0) = true := by rw [← hfe]; simpa using hf
  clear hf hfe
  go_enter Try.func15, Try.ntmps15
  go_wp2_with fail
  have P1 := layPut_any a0 a1 a2 a3 a4 a5 a6 a7 a8 a9 a10 a11 a12 a13 a14 (w.alloc (.cells #[.int .i64 a0, .int .i64 a1, .int .i64 a2, .int .i64 a3, .int .i64 a4, .int .i64 a5, .int .i64 a6, .int .i64 a7, .int .i64 a8, .int .i64 a9, .int .i64 a10, .int .i64 a11, .int .i64 a12, .int .i64 a13, .int .i64 a14] 52)) hv
  rw [hrr] at P1
  refine P1.mono ?_
  rintro e w1 ⟨u, rfl, uo, hb1⟩
  clear P1
  obtain ⟨uA, uc, rfl, hu1, hu2⟩ := own_slice uo
  have ur := RdI.of_own uo
  unfold maxLen at hu2
  have hR1 : w1.heap[w.heap.size]? = some (.cells #[.int .i64 a0, .int .i64 a1, .int .i64 a2, .int .i64 a3, .int .i64 a4, .int .i64 a5, .int .i64 a6, .int .i64 a7, .int .i64 a8, .int .i64 a9, .int .i64 a10, .int .i64 a11, .int .i64 a12, .int .i64 a13, .int .i64 a14] 52 (0, 0)) := (hb1.block w.heap.size (by simp)).trans (heap_alloc_new w _)
  have hB1 := bT (bel1 w _) hb1
  have hC1 : w.heap.size < w1.heap.size ∧ w1.cell? ⟨w.heap.size, 0, none⟩ = some (.int .i64 a0) ∧ w1.cell? ⟨w.heap.size, 1, none⟩ = some (.int .i64 a1) ∧ w1.cell? ⟨w.heap.size, 2, none⟩ = some (.int .i64 a2) ∧ w1.cell? ⟨w.heap.size, 3, none⟩ = some (.int .i64 a3) ∧ w1.cell? ⟨w.heap.size, 4, none⟩ = some (.int .i64 a4) ∧ w1.cell? ⟨w.heap.size, 5, none⟩ = some (.int .i64 a5) ∧ w1.cell? ⟨w.heap.size, 6, none⟩ = some (.int .i64 a6) ∧ w1.cell? ⟨w.heap.size, 7, none⟩ = some (.int .i64 a7) ∧ w1.cell? ⟨w.heap.size, 8, none⟩ = some (.int .i64 a8) ∧ w1.cell? ⟨w.heap.size, 9, none⟩ = some (.int .i64 a9) ∧ w1.cell? ⟨w.heap.size, 10, none⟩ = some (.int .i64 a10) ∧ w1.cell? ⟨w.heap.size, 11, none⟩ = some (.int .i64 a11) ∧ w1.cell? ⟨w.heap.size, 12, none⟩ = some (.int .i64 a12) ∧ w1.cell? ⟨w.heap.size, 13, none⟩ = some (.int .i64 a13) ∧ w1.cell? ⟨w.heap.size, 14, none⟩ = some (.int .i64 a14) := ⟨(Array.getElem?_eq_some_iff.1 hR1).1, (cell_of_row _ _ 0 _ _ _ hR1).trans rfl, (cell_of_row _ _ 1 _ _ _ hR1).trans rfl, (cell_of_row _ _ 2 _ _ _ hR1).trans rfl, (cell_of_row _ _ 3 _ _ _ hR1).trans rfl, (cell_of_row _ _ 4 _ _ _ hR1).trans rfl, (cell_of_row _ _ 5 _ _ _ hR1).trans rfl, (cell_of_row _ _ 6 _ _ _ hR1).trans rfl, (cell_of_row _ _ 7 _ _ _ hR1).trans rfl, (cell_of_row _ _ 8 _ _ _ hR1).trans rfl, (cell_of_row _ _ 9 _ _ _ hR1).trans rfl, (cell_of_row _ _ 10 _ _ _ hR1).trans rfl, (cell_of_row _ _ 11 _ _ _ hR1).trans rfl, (cell_of_row _ _ 12 _ _ _ hR1).trans rfl, (cell_of_row _ _ 13 _ _ _ hR1).trans rfl, (cell_of_row _ _ 14 _ _ _ hR1).trans rfl⟩
  replace hr := (hr.below (bel1 w _)).below hb1
  clear uo hb1 hR1
  have HB3 := Lib.hid hB1
  go_wp2_with fail
  have P2 := layGet_any uA uc l1 w1 ur hu1 (by omega) hub
  rw [hg] at P2
  refine P2.mono ?_
  rintro e w2 ⟨rfl, hb2⟩
  clear P2 HB3
  have hC2 := sh_below hC1 hb2
  have hB2 := bT hB1 hb2
  replace hr := hr.below hb2
  clear hC1 hB1 hb2 ur
  go_wp2_with fail
  obtain ⟨w3, hww3⟩ : ∃ w3, w2.alloc (.cells #[.int .i64 a0, .int .i64 a1, .int .i64 a2, .int .i64 a3, .int .i64 a4, .int .i64 a5, .int .i64 a6, .int .i64 a7, .int .i64 a8, .int .i64 a9, .int .i64 a10, .int .i64 a11, .int .i64 a12, .int .i64 a13, .int .i64 a14] 52) = w3 := ⟨_, rfl⟩
  have hnw3 : w3.heap[w2.heap.size]? = some (.cells #[.int .i64 a0, .int .i64 a1, .int .i64 a2, .int .i64 a3, .int .i64 a4, .int .i64 a5, .int .i64 a6, .int .i64 a7, .int .i64 a8, .int .i64 a9, .int .i64 a10, .int .i64 a11, .int .i64 a12, .int .i64 a13, .int .i64 a14] 52 (0, 0)) := by rw [← hww3]; exact heap_alloc_new _ _
  have hbw3 : Below w2.heap.size w2 w3 := by rw [← hww3]; exact bel1 _ _
  have hCw3 : w2.heap.size < w3.heap.size ∧ w3.cell? ⟨w2.heap.size, 0, none⟩ = some (.int .i64 a0) ∧ w3.cell? ⟨w2.heap.size, 1, none⟩ = some (.int .i64 a1) ∧ w3.cell? ⟨w2.heap.size, 2, none⟩ = some (.int .i64 a2) ∧ w3.cell? ⟨w2.heap.size, 3, none⟩ = some (.int .i64 a3) ∧ w3.cell? ⟨w2.heap.size, 4, none⟩ = some (.int .i64 a4) ∧ w3.cell? ⟨w2.heap.size, 5, none⟩ = some (.int .i64 a5) ∧ w3.cell? ⟨w2.heap.size, 6, none⟩ = some (.int .i64 a6) ∧ w3.cell? ⟨w2.heap.size, 7, none⟩ = some (.int .i64 a7) ∧ w3.cell? ⟨w2.heap.size, 8, none⟩ = some (.int .i64 a8) ∧ w3.cell? ⟨w2.heap.size, 9, none⟩ = some (.int .i64 a9) ∧ w3.cell? ⟨w2.heap.size, 10, none⟩ = some (.int .i64 a10) ∧ w3.cell? ⟨w2.heap.size, 11, none⟩ = some (.int .i64 a11) ∧ w3.cell? ⟨w2.heap.size, 12, none⟩ = some (.int .i64 a12) ∧ w3.cell? ⟨w2.heap.size, 13, none⟩ = some (.int .i64 a13) ∧ w3.cell? ⟨w2.heap.size, 14, none⟩ = some (.int .i64 a14) := ⟨(Array.getElem?_eq_some_iff.1 hnw3).1, (cell_of_row _ _ 0 _ _ _ hnw3).trans rfl, (cell_of_row _ _ 1 _ _ _ hnw3).trans rfl, (cell_of_row _ _ 2 _ _ _ hnw3).trans rfl, (cell_of_row _ _ 3 _ _ _ hnw3).trans rfl, (cell_of_row _ _ 4 _ _ _ hnw3).trans rfl, (cell_of_row _ _ 5 _ _ _ hnw3).trans rfl, (cell_of_row _ _ 6 _ _ _ hnw3).trans rfl, (cell_of_row _ _ 7 _ _ _ hnw3).trans rfl, (cell_of_row _ _ 8 _ _ _ hnw3).trans rfl, (cell_of_row _ _ 9 _ _ _ hnw3).trans rfl, (cell_of_row _ _ 10 _ _ _ hnw3).trans rfl, (cell_of_row _ _ 11 _ _ _ hnw3).trans rfl, (cell_of_row _ _ 12 _ _ _ hnw3).trans rfl, (cell_of_row _ _ 13 _ _ _ hnw3).trans rfl, (cell_of_row _ _ 14 _ _ _ hnw3).trans rfl⟩
  rw [hww3]
  have HWw3 := Lib.hid hww3
  clear hww3
  have hC3 := sh_below hC2 hbw3
  have hB3 := bT hB2 hbw3
  have HB3 := Lib.hid hB3
  replace hr := hr.below hbw3
  clear hC2 hB2 hbw3 hnw3 HWw3 hCw3
  have P3 := layGet_any A c l w3 hr hlc hc9 hb
  rw [hG] at P3
  refine P3.mono ?_
  rintro e w4 ⟨rfl, hb4⟩
  clear P3
  have hB4 := bT HB3.out hb4
  replace hr := hr.below hb4
  clear hb4 hC3 hB3
  go_wp2_with fail
  obtain ⟨w5, hww5⟩ : ∃ w5, w4.alloc (.cells #[.int .i64 0, .int .i64 0, .int .i64 0, .int .i64 0, .int .i64 0, .int .i64 0, .int .i64 0, .int .i64 0, .int .i64 0, .int .i64 0, .int .i64 0, .int .i64 0, .int .i64 0, .int .i64 0, .int .i64 0] 52) = w5 := ⟨_, rfl⟩
  have hnw5 : w5.heap[w4.heap.size]? = some (.cells #[.int .i64 0, .int .i64 0, .int .i64 0, .int .i64 0, .int .i64 0, .int .i64 0, .int .i64 0, .int .i64 0, .int .i64 0, .int .i64 0, .int .i64 0, .int .i64 0, .int .i64 0, .int .i64 0, .int .i64 0] 52 (0, 0)) := by rw [← hww5]; exact heap_alloc_new _ _
  have hbw5 : Below w4.heap.size w4 w5 := by rw [← hww5]; exact bel1 _ _
  have hCw5 : w4.heap.size < w5.heap.size ∧ w5.cell? ⟨w4.heap.size, 0, none⟩ = some (.int .i64 0) ∧ w5.cell? ⟨w4.heap.size, 1, none⟩ = some (.int .i64 0) ∧ w5.cell? ⟨w4.heap.size, 2, none⟩ = some (.int .i64 0) ∧ w5.cell? ⟨w4.heap.size, 3, none⟩ = some (.int .i64 0) ∧ w5.cell? ⟨w4.heap.size, 4, none⟩ = some (.int .i64 0) ∧ w5.cell? ⟨w4.heap.size, 5, none⟩ = some (.int .i64 0) ∧ w5.cell? ⟨w4.heap.size, 6, none⟩ = some (.int .i64 0) ∧ w5.cell? ⟨w4.heap.size, 7, none⟩ = some (.int .i64 0) ∧ w5.cell? ⟨w4.heap.size, 8, none⟩ = some (.int .i64 0) ∧ w5.cell? ⟨w4.heap.size, 9, none⟩ = some (.int .i64 0) ∧ w5.cell? ⟨w4.heap.size, 10, none⟩ = some (.int .i64 0) ∧ w5.cell? ⟨w4.heap.size, 11, none⟩ = some (.int .i64 0) ∧ w5.cell? ⟨w4.heap.size, 12, none⟩ = some (.int .i64 0) ∧ w5.cell? ⟨w4.heap.size, 13, none⟩ = some (.int .i64 0) ∧ w5.cell? ⟨w4.heap.size, 14, none⟩ = some (.int .i64 0) := ⟨(Array.getElem?_eq_some_iff.1 hnw5).1, (cell_of_row _ _ 0 _ _ _ hnw5).trans rfl, (cell_of_row _ _ 1 _ _ _ hnw5).trans rfl, (cell_of_row _ _ 2 _ _ _ hnw5).trans rfl, (cell_of_row _ _ 3 _ _ _ hnw5).trans rfl, (cell_of_row _ _ 4 _ _ _ hnw5).trans rfl, (cell_of_row _ _ 5 _ _ _ hnw5).trans rfl, (cell_of_row _ _ 6 _ _ _ hnw5).trans rfl, (cell_of_row _ _ 7 _ _ _ hnw5).trans rfl, (cell_of_row _ _ 8 _ _ _ hnw5).trans rfl, (cell_of_row _ _ 9 _ _ _ hnw5).trans rfl, (cell_of_row _ _ 10 _ _ _ hnw5).trans rfl, (cell_of_row _ _ 11 _ _ _ hnw5).trans rfl, (cell_of_row _ _ 12 _ _ _ hnw5).trans rfl, (cell_of_row _ _ 13 _ _ _ hnw5).trans rfl, (cell_of_row _ _ 14 _ _ _ hnw5).trans rfl⟩
  rw [hww5]
  have HWw5 := Lib.hid hww5
  clear hww5
  have HB5 := Lib.hid (bT hB4 hbw5)
  replace hr := hr.below hbw5
  clear hB4 hbw5 hnw5 HWw5
  refine (laid_any _).mono ?_
  rintro e w6 ⟨rfl, hb6⟩
  have hC6 := sh_below hCw5 hb6
  have HB6 := Lib.hid (bT HB5.out hb6)
  clear hb6
  go_wp2
  go_ret
  exact ⟨by simp, HB6.out⟩

set_option maxHeartbeats 4000000 in
set_option maxRecDepth 100000 in
theorem layoutBack_ok3 (a0 a1 a2 a3 a4 a5 a6 a7 a8 a9 a10 a11 a12 a13 a14 : Int) (A : Option Addr) (c : Nat) (l l1 : List Int) (e1 : Int) (w : World) (hv : ∀ x ∈ [a0, a1, a2, a3, a4, a5, a6, a7, a8, a9, a10, a11, a12, a13, a14], x ≤ 9223372036854775807) (hr : RdI w .u8 A l) (hlc : l.length ≤ c) (hc9 : c ≤ 9223372036854775807) (hb : ∀ x ∈ l, 0 ≤ x ∧ x < 256)
    (hrr : layR (tkB a0 a1 a2 a3 a4 a5 a6 a7 a8 a9 a10) [a0, a1, a2, a3, a4, a5, a6, a7, a8, a9, a10, a11, a12, a13, a14] = (l1, 0)) (hl : ¬ 1000 < l.length) (hf : (layG l).2 = 0) :
    Calls Try.prog 15 #[.agg #[.int .i64 a0, .int .i64 a1, .int .i64 a2, .int .i64 a3, .int .i64 a4, .int .i64 a5, .int .i64 a6, .int .i64 a7, .int .i64 a8, .int .i64 a9, .int .i64 a10, .int .i64 a11, .int .i64 a12, .int .i64 a13, .int .i64 a14], .slice A l.length c] w fun e w' => e = .returned (.bool true) ∧ Below w.heap.size w w' := by
  have hg := lay_get hrr
  have hub := layR_byte hrr
  have d1 : decide (1000 < (l.length : Int)) = false := by simpa using (show ¬ (1000 : Int) < l.length by omega)
  obtain ⟨c0, c1, c2, c3, c4, c5, c6, c7, c8, c9, c10, c11, c12, c13, c14, hc⟩ := layG_15 l
  have hG : layG l = ([c0, c1, c2, c3, c4, c5, c6, c7, c8, c9, c10, c11, c12, c13, c14], 0) := Prod.ext hc hf
  obtain ⟨hput, hT, hS⟩ := lay_put hb hG
  have hvc := lay_le hput
  have HT := Lib.hid hT
  have HS := Lib.hid hS
  clear hc hf hT hS
  go_enter Try.func15, Try.ntmps15
  go_wp2_with fail
  have P1 := layPut_any a0 a1 a2 a3 a4 a5 a6 a7 a8 a9 a10 a11 a12 a13 a14 (w.alloc (.cells #[.int .i64 a0, .int .i64 a1, .int .i64 a2, .int .i64 a3, .int .i64 a4, .int .i64 a5, .int .i64 a6, .int .i64 a7, .int .i64 a8, .int .i64 a9, .int .i64 a10, .int .i64 a11, .int .i64 a12, .int .i64 a13, .int .i64 a14] 52)) hv
  rw [hrr] at P1
  refine P1.mono ?_
  rintro e w1 ⟨u, rfl, uo, hb1⟩
  clear P1
  obtain ⟨uA, uc, rfl, hu1, hu2⟩ := own_slice uo
  have ur := RdI.of_own uo
  unfold maxLen at hu2
  have hR1 : w1.heap[w.heap.size]? = some (.cells #[.int .i64 a0, .int .i64 a1, .int .i64 a2, .int .i64 a3, .int .i64 a4, .int .i64 a5, .int .i64 a6, .int .i64 a7, .int .i64 a8, .int .i64 a9, .int .i64 a10, .int .i64 a11, .int .i64 a12, .int .i64 a13, .int .i64 a14] 52 (0, 0)) := (hb1.block w.heap.size (by simp)).trans (heap_alloc_new w _)
  have hB1 := bT (bel1 w _) hb1
  have hC1 : w.heap.size < w1.heap.size ∧ w1.cell? ⟨w.heap.size, 0, none⟩ = some (.int .i64 a0) ∧ w1.cell? ⟨w.heap.size, 1, none⟩ = some (.int .i64 a1) ∧ w1.cell? ⟨w.heap.size, 2, none⟩ = some (.int .i64 a2) ∧ w1.cell? ⟨w.heap.size, 3, none⟩ = some (.int .i64 a3) ∧ w1.cell? ⟨w.heap.size, 4, none⟩ = some (.int .i64 a4) ∧ w1.cell? ⟨w.heap.size, 5, none⟩ = some (.int .i64 a5) ∧ w1.cell? ⟨w.heap.size, 6, none⟩ = some (.int .i64 a6) ∧ w1.cell? ⟨w.heap.size, 7, none⟩ = some (.int .i64 a7) ∧ w1.cell? ⟨w.heap.size, 8, none⟩ = some (.int .i64 a8) ∧ w1.cell? ⟨w.heap.size, 9, none⟩ = some (.int .i64 a9) ∧ w1.cell? ⟨w.heap.size, 10, none⟩ = some (.int .i64 a10) ∧ w1.cell? ⟨w.heap.size, 11, none⟩ = some (.int .i64 a11) ∧ w1.cell? ⟨w.heap.size, 12, none⟩ = some (.int .i64 a12) ∧ w1.cell? ⟨w.heap.size, 13, none⟩ = some (.int .i64 a13) ∧ w1.cell? ⟨w.heap.size, 14, none⟩ = some (.int .i64 a14) := ⟨(Array.getElem?_eq_some_iff.1 hR1).1, (cell_of_row _ _ 0 _ _ _ hR1).trans rfl, (cell_of_row _ _ 1 _ _ _ hR1).trans rfl, (cell_of_row _ _ 2 _ _ _ hR1).trans rfl, (cell_of_row _ _ 3 _ _ _ hR1).trans rfl, (cell_of_row _ _ 4 _ _ _ hR1).trans rfl, (cell_of_row _ _ 5 _ _ _ hR1).trans rfl, (cell_of_row _ _ 6 _ _ _ hR1).trans rfl, (cell_of_row _ _ 7 _ _ _ hR1).trans rfl, (cell_of_row _ _ 8 _ _ _ hR1).trans rfl, (cell_of_row _ _ 9 _ _ _ hR1).trans rfl, (cell_of_row _ _ 10 _ _ _ hR1).trans rfl, (cell_of_row _ _ 11 _ _ _ hR1).trans rfl, (cell_of_row _ _ 12 _ _ _ hR1).trans rfl, (cell_of_row _ _ 13 _ _ _ hR1).trans rfl, (cell_of_row _ _ 14 _ _ _ hR1).trans rfl⟩
  replace hr := (hr.below (bel1 w _)).below hb1
  clear uo hb1 hR1
  have HB3 := Lib.hid hB1
  go_wp2_with fail
  have P2 := layGet_any uA uc l1 w1 ur hu1 (by omega) hub
  rw [hg] at P2
  refine P2.mono ?_
  rintro e w2 ⟨rfl, hb2⟩
  clear P2 HB3
  have hC2 := sh_below hC1 hb2
  have hB2 := bT hB1 hb2
  replace hr := hr.below hb2
  clear hC1 hB1 hb2 ur
  go_wp2_with fail
  obtain ⟨w3, hww3⟩ : ∃ w3, w2.alloc (.cells #[.int .i64 a0, .int .i64 a1, .int .i64 a2, .int .i64 a3, .int .i64 a4, .int .i64 a5, .int .i64 a6, .int .i64 a7, .int .i64 a8, .int .i64 a9, .int .i64 a10, .int .i64 a11, .int .i64 a12, .int .i64 a13, .int .i64 a14] 52) = w3 := ⟨_, rfl⟩
  have hnw3 : w3.heap[w2.heap.size]? = some (.cells #[.int .i64 a0, .int .i64 a1, .int .i64 a2, .int .i64 a3, .int .i64 a4, .int .i64 a5, .int .i64 a6, .int .i64 a7, .int .i64 a8, .int .i64 a9, .int .i64 a10, .int .i64 a11, .int .i64 a12, .int .i64 a13, .int .i64 a14] 52 (0, 0)) := by rw [← hww3]; exact heap_alloc_new _ _
  have hbw3 : Below w2.heap.size w2 w3 := by rw [← hww3]; exact bel1 _ _
  have hCw3 : w2.heap.size < w3.heap.size ∧ w3.cell? ⟨w2.heap.size, 0, none⟩ = some (.int .i64 a0) ∧ w3.cell? ⟨w2.heap.size, 1, none⟩ = some (.int .i64 a1) ∧ w3.cell? ⟨w2.heap.size, 2, none⟩ = some (.int .i64 a2) ∧ w3.cell? ⟨w2.heap.size, 3, none⟩ = some (.int .i64 a3) ∧ w3.cell? ⟨w2.heap.size, 4, none⟩ = some (.int .i64 a4) ∧ w3.cell? ⟨w2.heap.size, 5, none⟩ = some (.int .i64 a5) ∧ w3.cell? ⟨w2.heap.size, 6, none⟩ = some (.int .i64 a6) ∧ w3.cell? ⟨w2.heap.size, 7, none⟩ = some (.int .i64 a7) ∧ w3.cell? ⟨w2.heap.size, 8, none⟩ = some (.int .i64 a8) ∧ w3.cell? ⟨w2.heap.size, 9, none⟩ = some (.int .i64 a9) ∧ w3.cell? ⟨w2.heap.size, 10, none⟩ = some (.int .i64 a10) ∧ w3.cell? ⟨w2.heap.size, 11, none⟩ = some (.int .i64 a11) ∧ w3.cell? ⟨w2.heap.size, 12, none⟩ = some (.int .i64 a12) ∧ w3.cell? ⟨w2.heap.size, 13, none⟩ = some (.int .i64 a13) ∧ w3.cell? ⟨w2.heap.size, 14, none⟩ = some (.int .i64 a14) := ⟨(Array.getElem?_eq_some_iff.1 hnw3).1, (cell_of_row _ _ 0 _ _ _ hnw3).trans rfl, (cell_of_row _ _ 1 _ _ _ hnw3).trans rfl, (cell_of_row _ _ 2 _ _ _ hnw3).trans rfl, (cell_of_row _ _ 3 _ _ _ hnw3).trans rfl, (cell_of_row _ _ 4 _ _ _ hnw3).trans rfl, (cell_of_row _ _ 5 _ _ _ hnw3).trans rfl, (cell_of_row _ _ 6 _ _ _ hnw3).trans rfl, (cell_of_row _ _ 7 _ _ _ hnw3).trans rfl, (cell_of_row _ _ 8 _ _ _ hnw3).trans rfl, (cell_of_row _ _ 9 _ _ _ hnw3).trans rfl, (cell_of_row _ _ 10 _ _ _ hnw3).trans rfl, (cell_of_row _ _ 11 _ _ _ hnw3).trans rfl, (cell_of_row _ _ 12 _ _ _ hnw3).trans rfl, (cell_of_row _ _ 13 _ _ _ hnw3).trans rfl, (cell_of_row _ _ 14 _ _ _ hnw3).trans rfl⟩
  rw [hww3]
  have HWw3 := Lib.hid hww3
  clear hww3
  have hC3 := sh_below hC2 hbw3
  have hB3 := bT hB2 hbw3
  have HB3 := Lib.hid hB3
  replace hr := hr.below hbw3
  clear hC2 hB2 hbw3 hnw3 HWw3 hCw3
  have P3 := layGet_any A c l w3 hr hlc hc9 hb
  rw [hG] at P3
  refine P3.mono ?_
  rintro e w4 ⟨rfl, hb4⟩
  clear P3
  have hB4 := bT HB3.out hb4
  replace hr := hr.below hb4
  clear hb4 hC3 hB3
  go_wp2_with fail
  obtain ⟨w5, hww5⟩ : ∃ w5, w4.alloc (.cells #[.int .i64 c0, .int .i64 c1, .int .i64 c2, .int .i64 c3, .int .i64 c4, .int .i64 c5, .int .i64 c6, .int .i64 c7, .int .i64 c8, .int .i64 c9, .int .i64 c10, .int .i64 c11, .int .i64 c12, .int .i64 c13, .int .i64 c14] 52) = w5 := ⟨_, rfl⟩
  have hnw5 : w5.heap[w4.heap.size]? = some (.cells #[.int .i64 c0, .int .i64 c1, .int .i64 c2, .int .i64 c3, .int .i64 c4, .int .i64 c5, .int .i64 c6, .int .i64 c7, .int .i64 c8, .int .i64 c9, .int .i64 c10, .int .i64 c11, .int .i64 c12, .int .i64 c13, .int .i64 c14] 52 (0, 0)) := by rw [← hww5]; exact heap_alloc_new _ _
  have hbw5 : Below w4.heap.size w4 w5 := by rw [← hww5]; exact bel1 _ _
  have hCw5 : w4.heap.size < w5.heap.size ∧ w5.cell? ⟨w4.heap.size, 0, none⟩ = some (.int .i64 c0) ∧ w5.cell? ⟨w4.heap.size, 1, none⟩ = some (.int .i64 c1) ∧ w5.cell? ⟨w4.heap.size, 2, none⟩ = some (.int .i64 c2) ∧ w5.cell? ⟨w4.heap.size, 3, none⟩ = some (.int .i64 c3) ∧ w5.cell? ⟨w4.heap.size, 4, none⟩ = some (.int .i64 c4) ∧ w5.cell? ⟨w4.heap.size, 5, none⟩ = some (.int .i64 c5) ∧ w5.cell? ⟨w4.heap.size, 6, none⟩ = some (.int .i64 c6) ∧ w5.cell? ⟨w4.heap.size, 7, none⟩ = some (.int .i64 c7) ∧ w5.cell? ⟨w4.heap.size, 8, none⟩ = some (.int .i64 c8) ∧ w5.cell? ⟨w4.heap.size, 9, none⟩ = some (.int .i64 c9) ∧ w5.cell? ⟨w4.heap.size, 10, none⟩ = some (.int .i64 c10) ∧ w5.cell? ⟨w4.heap.size, 11, none⟩ = some (.int .i64 c11) ∧ w5.cell? ⟨w4.heap.size, 12, none⟩ = some (.int .i64 c12) ∧ w5.cell? ⟨w4.heap.size, 13, none⟩ = some (.int .i64 c13) ∧ w5.cell? ⟨w4.heap.size, 14, none⟩ = some (.int .i64 c14) := ⟨(Array.getElem?_eq_some_iff.1 hnw5).1, (cell_of_row _ _ 0 _ _ _ hnw5).trans rfl, (cell_of_row _ _ 1 _ _ _ hnw5).trans rfl, (cell_of_row _ _ 2 _ _ _ hnw5).trans rfl, (cell_of_row _ _ 3 _ _ _ hnw5).trans rfl, (cell_of_row _ _ 4 _ _ _ hnw5).trans rfl, (cell_of_row _ _ 5 _ _ _ hnw5).trans rfl, (cell_of_row _ _ 6 _ _ _ hnw5).trans rfl, (cell_of_row _ _ 7 _ _ _ hnw5).trans rfl, (cell_of_row _ _ 8 _ _ _ hnw5).trans rfl, (cell_of_row _ _ 9 _ _ _ hnw5).trans rfl, (cell_of_row _ _ 10 _ _ _ hnw5).trans rfl, (cell_of_row _ _ 11 _ _ _ hnw5).trans rfl, (cell_of_row _ _ 12 _ _ _ hnw5).trans rfl, (cell_of_row _ _ 13 _ _ _ hnw5).trans rfl, (cell_of_row _ _ 14 _ _ _ hnw5).trans rfl⟩
  rw [hww5]
  have HWw5 := Lib.hid hww5
  clear hww5
  have HB5 := Lib.hid (bT hB4 hbw5)
  replace hr := hr.below hbw5
  clear hB4 hbw5 hnw5 HWw5
  have P5 := layPut_any c0 c1 c2 c3 c4 c5 c6 c7 c8 c9 c10 c11 c12 c13 c14 w5 hvc
  rw [hput] at P5
  refine P5.mono ?_
  rintro e w6 ⟨y, rfl, yo, hb6⟩
  clear P5
  obtain ⟨yA, yc, rfl, hy1, hy2⟩ := own_slice yo
  have yr := RdI.of_own yo
  unfold maxLen at hy2
  have hC6 := sh_below hCw5 hb6
  replace hr := hr.below hb6
  have HB6 := Lib.hid (bT HB5.out hb6)
  clear yo hb6 hCw5
  go_wp2_with fail
  refine (laid_any _).mono ?_
  rintro e w7 ⟨rfl, hb7⟩
  have hC7 := sh_below hC6 hb7
  replace hr := hr.below hb7
  replace yr := yr.below hb7
  have HB7 := Lib.hid (bT HB6.out hb7)
  clear hb7 hC6
  go_wp2_with fail
  refine (same01_any _ _ _ _ l l _ yr hr (by omega) (by omega)).mono ?_
  rintro e w8 ⟨he, n8, hw8⟩
  rw [show (l == l) = true from by simp] at he
  subst he
  have hb8 : Below w7.heap.size w7 w8 := by rw [hw8]; exact bN (Below.refl _ _) n8
  clear hw8
  have hC8 := sh_below hC7 hb8
  have HB8 := Lib.hid (bT HB7.out hb8)
  clear hb8 hC7 hr yr
  go_wp2_with fail
  refine (tk_any c0 c1 c2 c3 c4 c5 c6 c7 c8 c9 c10 _).mono ?_
  rintro e w9 ⟨he, hb9⟩
  rw [HT.out] at he
  subst he
  have hC9 := sh_below hC8 hb9
  have HB9 := Lib.hid (bT HB8.out hb9)
  clear hb9 hC8
  go_wp2_with fail
  refine (suits_any c0 c1 c2 c3 c4 c5 c6 c7 c8 c9 c10 c12 c13 _).mono ?_
  rintro e w10 ⟨he, hb10⟩
  rw [HS.out] at he
  subst he
  have HB10 := Lib.hid (bT HB9.out hb10)
  clear hb10
  go_wp2
  go_ret
  exact ⟨by simp, HB10.out⟩


set_option maxHeartbeats 4000000 in
set_option maxRecDepth 100000 in
theorem layoutBack_no1 (a0 a1 a2 a3 a4 a5 a6 a7 a8 a9 a10 a11 a12 a13 a14 : Int) (A : Option Addr) (c : Nat) (l l1 : List Int) (e1 : Int) (w : World) (hv : ∀ x ∈ [a0, a1, a2, a3, a4, a5, a6, a7, a8, a9, a10, a11, a12, a13, a14], x ≤ 9223372036854775807) (hr : RdI w .u8 A l) (hlc : l.length ≤ c) (hc9 : c ≤ 9223372036854775807) (hb : ∀ x ∈ l, 0 ≤ x ∧ x < 256)
    (hrr : layR (tkB a0 a1 a2 a3 a4 a5 a6 a7 a8 a9 a10) [a0, a1, a2, a3, a4, a5, a6, a7, a8, a9, a10, a11, a12, a13, a14] = (l1, e1)) (d0 : (e1 == 0) = false) (hl : 1000 < l.length) :
    Calls Try.prog 15 #[.agg #[.int .i64 a0, .int .i64 a1, .int .i64 a2, .int .i64 a3, .int .i64 a4, .int .i64 a5, .int .i64 a6, .int .i64 a7, .int .i64 a8, .int .i64 a9, .int .i64 a10, .int .i64 a11, .int .i64 a12, .int .i64 a13, .int .i64 a14], .slice A l.length c] w fun e w' => e = .returned (.bool true) ∧ Below w.heap.size w w' := by
  have d1 : decide (1000 < (l.length : Int)) = true := by simpa using (show (1000 : Int) < l.length by omega)
  go_enter Try.func15, Try.ntmps15
  go_wp2_with fail
  have P1 := layPut_any a0 a1 a2 a3 a4 a5 a6 a7 a8 a9 a10 a11 a12 a13 a14 (w.alloc (.cells #[.int .i64 a0, .int .i64 a1, .int .i64 a2, .int .i64 a3, .int .i64 a4, .int .i64 a5, .int .i64 a6, .int .i64 a7, .int .i64 a8, .int .i64 a9, .int .i64 a10, .int .i64 a11, .int .i64 a12, .int .i64 a13, .int .i64 a14] 52)) hv
  rw [hrr] at P1
  refine P1.mono ?_
  rintro e w1 ⟨u, rfl, uo, hb1⟩
  clear P1
  obtain ⟨uA, uc, rfl, hu1, hu2⟩ := own_slice uo
  have ur := RdI.of_own uo
  unfold maxLen at hu2
  have hR1 : w1.heap[w.heap.size]? = some (.cells #[.int .i64 a0, .int .i64 a1, .int .i64 a2, .int .i64 a3, .int .i64 a4, .int .i64 a5, .int .i64 a6, .int .i64 a7, .int .i64 a8, .int .i64 a9, .int .i64 a10, .int .i64 a11, .int .i64 a12, .int .i64 a13, .int .i64 a14] 52 (0, 0)) := (hb1.block w.heap.size (by simp)).trans (heap_alloc_new w _)
  have hB1 := bT (bel1 w _) hb1
  have hC1 : w.heap.size < w1.heap.size ∧ w1.cell? ⟨w.heap.size, 0, none⟩ = some (.int .i64 a0) ∧ w1.cell? ⟨w.heap.size, 1, none⟩ = some (.int .i64 a1) ∧ w1.cell? ⟨w.heap.size, 2, none⟩ = some (.int .i64 a2) ∧ w1.cell? ⟨w.heap.size, 3, none⟩ = some (.int .i64 a3) ∧ w1.cell? ⟨w.heap.size, 4, none⟩ = some (.int .i64 a4) ∧ w1.cell? ⟨w.heap.size, 5, none⟩ = some (.int .i64 a5) ∧ w1.cell? ⟨w.heap.size, 6, none⟩ = some (.int .i64 a6) ∧ w1.cell? ⟨w.heap.size, 7, none⟩ = some (.int .i64 a7) ∧ w1.cell? ⟨w.heap.size, 8, none⟩ = some (.int .i64 a8) ∧ w1.cell? ⟨w.heap.size, 9, none⟩ = some (.int .i64 a9) ∧ w1.cell? ⟨w.heap.size, 10, none⟩ = some (.int .i64 a10) ∧ w1.cell? ⟨w.heap.size, 11, none⟩ = some (.int .i64 a11) ∧ w1.cell? ⟨w.heap.size, 12, none⟩ = some (.int .i64 a12) ∧ w1.cell? ⟨w.heap.size, 13, none⟩ = some (.int .i64 a13) ∧ w1.cell? ⟨w.heap.size, 14, none⟩ = some (.int .i64 a14) := ⟨(Array.getElem?_eq_some_iff.1 hR1).1, (cell_of_row _ _ 0 _ _ _ hR1).trans rfl, (cell_of_row _ _ 1 _ _ _ hR1).trans rfl, (cell_of_row _ _ 2 _ _ _ hR1).trans rfl, (cell_of_row _ _ 3 _ _ _ hR1).trans rfl, (cell_of_row _ _ 4 _ _ _ hR1).trans rfl, (cell_of_row _ _ 5 _ _ _ hR1).trans rfl, (cell_of_row _ _ 6 _ _ _ hR1).trans rfl, (cell_of_row _ _ 7 _ _ _ hR1).trans rfl, (cell_of_row _ _ 8 _ _ _ hR1).trans rfl, (cell_of_row _ _ 9 _ _ _ hR1).trans rfl, (cell_of_row _ _ 10 _ _ _ hR1).trans rfl, (cell_of_row _ _ 11 _ _ _ hR1).trans rfl, (cell_of_row _ _ 12 _ _ _ hR1).trans rfl, (cell_of_row _ _ 13 _ _ _ hR1).trans rfl, (cell_of_row _ _ 14 _ _ _ hR1).trans rfl⟩
  replace hr := (hr.below (bel1 w _)).below hb1
  clear uo hb1 hR1
  have HB3 := Lib.hid hB1
  go_wp2_with fail
  refine (laid_any _).mono ?_
  rintro e w4 ⟨rfl, hb4⟩
  go_wp2
  go_ret
  exact ⟨rfl, bT HB3.out hb4⟩

set_option maxHeartbeats 4000000 in
set_option maxRecDepth 100000 in
theorem layoutBack_no2 (a0 a1 a2 a3 a4 a5 a6 a7 a8 a9 a10 a11 a12 a13 a14 : Int) (A : Option Addr) (c : Nat) (l l1 : List Int) (e1 : Int) (w : World) (hv : ∀ x ∈ [a0, a1, a2, a3, a4, a5, a6, a7, a8, a9, a10, a11, a12, a13, a14], x ≤ 9223372036854775807) (hr : RdI w .u8 A l) (hlc : l.length ≤ c) (hc9 : c ≤ 9223372036854775807) (hb : ∀ x ∈ l, 0 ≤ x ∧ x < 256)
    (hrr : layR (tkB a0 a1 a2 a3 a4 a5 a6 a7 a8 a9 a10) [a0, a1, a2, a3, a4, a5, a6, a7, a8, a9, a10, a11, a12, a13, a14] = (l1, e1)) (d0 : (e1 == 0) = false) (hl : ¬ 1000 < l.length) (hf : ¬ (layG l).2 = 0) :
    Calls Try.prog 15 #[.agg #[.int .i64 a0, .int .i64 a1, .int .i64 a2, .int .i64 a3, .int .i64 a4, .int .i64 a5, .int .i64 a6, .int .i64 a7, .int .i64 a8, .int .i64 a9, .int .i64 a10, .int .i64 a11, .int .i64 a12, .int .i64 a13, .int .i64 a14], .slice A l.length c] w fun e w' => e = .returned (.bool true) ∧ Below w.heap.size w w' := by
  have d1 : decide (1000 < (l.length : Int)) = false := by simpa using (show ¬ (1000 : Int) < l.length by omega)
  obtain ⟨f, hfe⟩ : ∃ f, (layG l).2 = f := ⟨_, rfl⟩
  have hG : layG l = ([0, 0, 0, 0, 0, 0, 0, 0, 0, 0, 0, 0, 0, 0, 0], f) := Prod.ext (layG_fail hf) hfe
  have d2 : (f != 0) = true := by rw [← hfe]; simpa using hf
  clear hf hfe
  go_enter Try.func15, Try.ntmps15
  go_wp2_with fail
  have P1 := layPut_any a0 a1 a2 a3 a4 a5 a6 a7 a8 a9 a10 a11 a12 a13 a14 (w.alloc (.cells #[.int .i64 a0, .int .i64 a1, .int .i64 a2, .int .i64 a3, .int .i64 a4, .int .i64 a5, .int .i64 a6, .int .i64 a7, .int .i64 a8, .int .i64 a9, .int .i64 a10, .int .i64 a11, .int .i64 a12, .int .i64 a13, .int .i64 a14] 52)) hv
  rw [hrr] at P1
  refine P1.mono ?_
  rintro e w1 ⟨u, rfl, uo, hb1⟩
  clear P1
  obtain ⟨uA, uc, rfl, hu1, hu2⟩ := own_slice uo
  have ur := RdI.of_own uo
  unfold maxLen at hu2
  have hR1 : w1.heap[w.heap.size]? = some (.cells #[.int .i64 a0, .int .i64 a1, .int .i64 a2, .int .i64 a3, .int .i64 a4, .int .i64 a5, .int .i64 a6, .int .i64 a7, .int .i64 a8, .int .i64 a9, .int .i64 a10, .int .i64 a11, .int .i64 a12, .int .i64 a13, .int .i64 a14] 52 (0, 0)) := (hb1.block w.heap.size (by simp)).trans (heap_alloc_new w _)
  have hB1 := bT (bel1 w _) hb1
  have hC1 : w.heap.size < w1.heap.size ∧ w1.cell? ⟨w.heap.size, 0, none⟩ = some (.int .i64 a0) ∧ w1.cell? ⟨w.heap.size, 1, none⟩ = some (.int .i64 a1) ∧ w1.cell? ⟨w.heap.size, 2, none⟩ = some (.int .i64 a2) ∧ w1.cell? ⟨w.heap.size, 3, none⟩ = some (.int .i64 a3) ∧ w1.cell? ⟨w.heap.size, 4, none⟩ = some (.int .i64 a4) ∧ w1.cell? ⟨w.heap.size, 5, none⟩ = some (.int .i64 a5) ∧ w1.cell? ⟨w.heap.size, 6, none⟩ = some (.int .i64 a6) ∧ w1.cell? ⟨w.heap.size, 7, none⟩ = some (.int .i64 a7) ∧ w1.cell? ⟨w.heap.size, 8, none⟩ = some (.int .i64 a8) ∧ w1.cell? ⟨w.heap.size, 9, none⟩ = some (.int .i64 a9) ∧ w1.cell? ⟨w.heap.size, 10, none⟩ = some (.int .i64 a10) ∧ w1.cell? ⟨w.heap.size, 11, none⟩ = some (.int .i64 a11) ∧ w1.cell? ⟨w.heap.size, 12, none⟩ = some (.int .i64 a12) ∧ w1.cell? ⟨w.heap.size, 13, none⟩ = some (.int .i64 a13) ∧ w1.cell? ⟨w.heap.size, 14, none⟩ = some (.int .i64 a14) := ⟨(Array.getElem?_eq_some_iff.1 hR1).1, (cell_of_row _ _ 0 _ _ _ hR1).trans rfl, (cell_of_row _ _ 1 _ _ _ hR1).trans rfl, (cell_of_row _ _ 2 _ _ _ hR1).trans rfl, (cell_of_row _ _ 3 _ _ _ hR1).trans rfl, (cell_of_row _ _ 4 _ _ _ hR1).trans rfl, (cell_of_row _ _ 5 _ _ _ hR1).trans rfl, (cell_of_row _ _ 6 _ _ _ hR1).trans rfl, (cell_of_row _ _ 7 _ _ _ hR1).trans rfl, (cell_of_row _ _ 8 _ _ _ hR1).trans rfl, (cell_of_row _ _ 9 _ _ _ hR1).trans rfl, (cell_of_row _ _ 10 _ _ _ hR1).trans rfl, (cell_of_row _ _ 11 _ _ _ hR1).trans rfl, (cell_of_row _ _ 12 _ _ _ hR1).trans rfl, (cell_of_row _ _ 13 _ _ _ hR1).trans rfl, (cell_of_row _ _ 14 _ _ _ hR1).trans rfl⟩
  replace hr := (hr.below (bel1 w _)).below hb1
  clear uo hb1 hR1
  have HB3 := Lib.hid hB1
  go_wp2_with fail
  have P3 := layGet_any A c l w1 hr hlc hc9 hb
  rw [hG] at P3
  refine P3.mono ?_
  rintro e w4 ⟨rfl, hb4⟩
  clear P3
  have hB4 := bT HB3.out hb4
  replace hr := hr.below hb4
  clear hb4 hC1 hB1
  go_wp2_with fail
  obtain ⟨w5, hww5⟩ : ∃ w5, w4.alloc (.cells #[.int .i64 0, .int .i64 0, .int .i64 0, .int .i64 0, .int .i64 0, .int .i64 0, .int .i64 0, .int .i64 0, .int .i64 0, .int .i64 0, .int .i64 0, .int .i64 0, .int .i64 0, .int .i64 0, .int .i64 0] 52) = w5 := ⟨_, rfl⟩
  have hnw5 : w5.heap[w4.heap.size]? = some (.cells #[.int .i64 0, .int .i64 0, .int .i64 0, .int .i64 0, .int .i64 0, .int .i64 0, .int .i64 0, .int .i64 0, .int .i64 0, .int .i64 0, .int .i64 0, .int .i64 0, .int .i64 0, .int .i64 0, .int .i64 0] 52 (0, 0)) := by rw [← hww5]; exact heap_alloc_new _ _
  have hbw5 : Below w4.heap.size w4 w5 := by rw [← hww5]; exact bel1 _ _
  have hCw5 : w4.heap.size < w5.heap.size ∧ w5.cell? ⟨w4.heap.size, 0, none⟩ = some (.int .i64 0) ∧ w5.cell? ⟨w4.heap.size, 1, none⟩ = some (.int .i64 0) ∧ w5.cell? ⟨w4.heap.size, 2, none⟩ = some (.int .i64 0) ∧ w5.cell? ⟨w4.heap.size, 3, none⟩ = some (.int .i64 0) ∧ w5.cell? ⟨w4.heap.size, 4, none⟩ = some (.int .i64 0) ∧ w5.cell? ⟨w4.heap.size, 5, none⟩ = some (.int .i64 0) ∧ w5.cell? ⟨w4.heap.size, 6, none⟩ = some (.int .i64 0) ∧ w5.cell? ⟨w4.heap.size, 7, none⟩ = some (.int .i64 0) ∧ w5.cell? ⟨w4.heap.size, 8, none⟩ = some (.int .i64 0) ∧ w5.cell? ⟨w4.heap.size, 9, none⟩ = some (.int .i64 0) ∧ w5.cell? ⟨w4.heap.size, 10, none⟩ = some (.int .i64 0) ∧ w5.cell? ⟨w4.heap.size, 11, none⟩ = some (.int .i64 0) ∧ w5.cell? ⟨w4.heap.size, 12, none⟩ = some (.int .i64 0) ∧ w5.cell? ⟨w4.heap.size, 13, none⟩ = some (.int .i64 0) ∧ w5.cell? ⟨w4.heap.size, 14, none⟩ = some (.int .i64 0) := ⟨(Array.getElem?_eq_some_iff.1 hnw5).1, (cell_of_row _ _ 0 _ _ _ hnw5).trans rfl, (cell_of_row _ _ 1 _ _ _ hnw5).trans rfl, (cell_of_row _ _ 2 _ _ _ hnw5).trans rfl, (cell_of_row _ _ 3 _ _ _ hnw5).trans rfl, (cell_of_row _ _ 4 _ _ _ hnw5).trans rfl, (cell_of_row _ _ 5 _ _ _ hnw5).trans rfl, (cell_of_row _ _ 6 _ _ _ hnw5).trans rfl, (cell_of_row _ _ 7 _ _ _ hnw5).trans rfl, (cell_of_row _ _ 8 _ _ _ hnw5).trans rfl, (cell_of_row _ _ 9 _ _ _ hnw5).trans rfl, (cell_of_row _ _ 10 _ _ _ hnw5).trans rfl, (cell_of_row _ _ 11 _ _ _ hnw5).trans rfl, (cell_of_row _ _ 12 _ _ _ hnw5).trans rfl, (cell_of_row _ _ 13 _ _ _ hnw5).trans rfl, (cell_of_row _ _ 14 _ _ _ hnw5).trans rfl⟩
  rw [hww5]
  have HWw5 := Lib.hid hww5
  clear hww5
  have HB5 := Lib.hid (bT hB4 hbw5)
  replace hr := hr.below hbw5
  clear hB4 hbw5 hnw5 HWw5
  refine (laid_any _).mono ?_
  rintro e w6 ⟨rfl, hb6⟩
  have hC6 := sh_below hCw5 hb6
  have HB6 := Lib.hid (bT HB5.out hb6)
  clear hb6
  go_wp2
  go_ret
  exact ⟨by simp, HB6.out⟩

set_option maxHeartbeats 4000000 in
set_option maxRecDepth 100000 in
theorem layoutBack_no3 (a0 a1 a2 a3 a4 a5 a6 a7 a8 a9 a10 a11 a12 a13 a14 : Int) (A : Option Addr) (c : Nat) (l l1 : List Int) (e1 : Int) (w : World) (hv : ∀ x ∈ [a0, a1, a2, a3, a4, a5, a6, a7, a8, a9, a10, a11, a12, a13, a14], x ≤ 9223372036854775807) (hr : RdI w .u8 A l) (hlc : l.length ≤ c) (hc9 : c ≤ 9223372036854775807) (hb : ∀ x ∈ l, 0 ≤ x ∧ x < 256)
    (hrr : layR (tkB a0 a1 a2 a3 a4 a5 a6 a7 a8 a9 a10) [a0, a1, a2, a3, a4, a5, a6, a7, a8, a9, a10, a11, a12, a13, a14] = (l1, e1)) (d0 : (e1 == 0) = false) (hl : ¬ 1000 < l.length) (hf : (layG l).2 = 0) :
    Calls Try.prog 15 #[.agg #[.int .i64 a0, .int .i64 a1, .int .i64 a2, .int .i64 a3, .int .i64 a4, .int .i64 a5, .int .i64 a6, .int .i64 a7, .int .i64 a8, .int .i64 a9, .int .i64 a10, .int .i64 a11, .int .i64 a12, .int .i64 a13, .int .i64 a14], .slice A l.length c] w fun e w' => e = .returned (.bool true) ∧ Below w.heap.size w w' := by
  have d1 : decide (1000 < (l.length : Int)) = false := by simpa using (show ¬ (1000 : Int) < l.length by omega)
  obtain ⟨c0, c1, c2, c3, c4, c5, c6, c7, c8, c9, c10, c11, c12, c13, c14, hc⟩ := layG_15 l
  have hG : layG l = ([c0, c1, c2, c3, c4, c5, c6, c7, c8, c9, c10, c11, c12, c13, c14], 0) := Prod.ext hc hf
  obtain ⟨hput, hT, hS⟩ := lay_put hb hG
  have hvc := lay_le hput
  have HT := Lib.hid hT
  have HS := Lib.hid hS
  clear hc hf hT hS
  go_enter Try.func15, Try.ntmps15
  go_wp2_with fail
  have P1 := layPut_any a0 a1 a2 a3 a4 a5 a6 a7 a8 a9 a10 a11 a12 a13 a14 (w.alloc (.cells #[.int .i64 a0, .int .i64 a1, .int .i64 a2, .int .i64 a3, .int .i64 a4, .int .i64 a5, .int .i64 a6, .int .i64 a7, .int .i64 a8, .int .i64 a9, .int .i64 a10, .int .i64 a11, .int .i64 a12, .int .i64 a13, .int .i64 a14] 52)) hv
  rw [hrr] at P1
  refine P1.mono ?_
  rintro e w1 ⟨u, rfl, uo, hb1⟩
  clear P1
  obtain ⟨uA, uc, rfl, hu1, hu2⟩ := own_slice uo
  have ur := RdI.of_own uo
  unfold maxLen at hu2
  have hR1 : w1.heap[w.heap.size]? = some (.cells #[.int .i64 a0, .int .i64 a1, .int .i64 a2, .int .i64 a3, .int .i64 a4, .int .i64 a5, .int .i64 a6, .int .i64 a7, .int .i64 a8, .int .i64 a9, .int .i64 a10, .int .i64 a11, .int .i64 a12, .int .i64 a13, .int .i64 a14] 52 (0, 0)) := (hb1.block w.heap.size (by simp)).trans (heap_alloc_new w _)
  have hB1 := bT (bel1 w _) hb1
  have hC1 : w.heap.size < w1.heap.size ∧ w1.cell? ⟨w.heap.size, 0, none⟩ = some (.int .i64 a0) ∧ w1.cell? ⟨w.heap.size, 1, none⟩ = some (.int .i64 a1) ∧ w1.cell? ⟨w.heap.size, 2, none⟩ = some (.int .i64 a2) ∧ w1.cell? ⟨w.heap.size, 3, none⟩ = some (.int .i64 a3) ∧ w1.cell? ⟨w.heap.size, 4, none⟩ = some (.int .i64 a4) ∧ w1.cell? ⟨w.heap.size, 5, none⟩ = some (.int .i64 a5) ∧ w1.cell? ⟨w.heap.size, 6, none⟩ = some (.int .i64 a6) ∧ w1.cell? ⟨w.heap.size, 7, none⟩ = some (.int .i64 a7) ∧ w1.cell? ⟨w.heap.size, 8, none⟩ = some (.int .i64 a8) ∧ w1.cell? ⟨w.heap.size, 9, none⟩ = some (.int .i64 a9) ∧ w1.cell? ⟨w.heap.size, 10, none⟩ = some (.int .i64 a10) ∧ w1.cell? ⟨w.heap.size, 11, none⟩ = some (.int .i64 a11) ∧ w1.cell? ⟨w.heap.size, 12, none⟩ = some (.int .i64 a12) ∧ w1.cell? ⟨w.heap.size, 13, none⟩ = some (.int .i64 a13) ∧ w1.cell? ⟨w.heap.size, 14, none⟩ = some (.int .i64 a14) := ⟨(Array.getElem?_eq_some_iff.1 hR1).1, (cell_of_row _ _ 0 _ _ _ hR1).trans rfl, (cell_of_row _ _ 1 _ _ _ hR1).trans rfl, (cell_of_row _ _ 2 _ _ _ hR1).trans rfl, (cell_of_row _ _ 3 _ _ _ hR1).trans rfl, (cell_of_row _ _ 4 _ _ _ hR1).trans rfl, (cell_of_row _ _ 5 _ _ _ hR1).trans rfl, (cell_of_row _ _ 6 _ _ _ hR1).trans rfl, (cell_of_row _ _ 7 _ _ _ hR1).trans rfl, (cell_of_row _ _ 8 _ _ _ hR1).trans rfl, (cell_of_row _ _ 9 _ _ _ hR1).trans rfl, (cell_of_row _ _ 10 _ _ _ hR1).trans rfl, (cell_of_row _ _ 11 _ _ _ hR1).trans rfl, (cell_of_row _ _ 12 _ _ _ hR1).trans rfl, (cell_of_row _ _ 13 _ _ _ hR1).trans rfl, (cell_of_row _ _ 14 _ _ _ hR1).trans rfl⟩
  replace hr := (hr.below (bel1 w _)).below hb1
  clear uo hb1 hR1
  have HB3 := Lib.hid hB1
  go_wp2_with fail
  have P3 := layGet_any A c l w1 hr hlc hc9 hb
  rw [hG] at P3
  refine P3.mono ?_
  rintro e w4 ⟨rfl, hb4⟩
  clear P3
  have hB4 := bT HB3.out hb4
  replace hr := hr.below hb4
  clear hb4 hC1 hB1
  go_wp2_with fail
  obtain ⟨w5, hww5⟩ : ∃ w5, w4.alloc (.cells #[.int .i64 c0, .int .i64 c1, .int .i64 c2, .int .i64 c3, .int .i64 c4, .int .i64 c5, .int .i64 c6, .int .i64 c7, .int .i64 c8, .int .i64 c9, .int .i64 c10, .int .i64 c11, .int .i64 c12, .int .i64 c13, .int .i64 c14] 52) = w5 := ⟨_, rfl⟩
  have hnw5 : w5.heap[w4.heap.size]? = some (.cells #[.int .i64 c0, .int .i64 c1, .int .i64 c2, .int .i64 c3, .int .i64 c4, .int .i64 c5, .int .i64 c6, .int .i64 c7, .int .i64 c8, .int .i64 c9, .int .i64 c10, .int .i64 c11, .int .i64 c12, .int .i64 c13, .int .i64 c14] 52 (0, 0)) := by rw [← hww5]; exact heap_alloc_new _ _
  have hbw5 : Below w4.heap.size w4 w5 := by rw [← hww5]; exact bel1 _ _
  have hCw5 : w4.heap.size < w5.heap.size ∧ w5.cell? ⟨w4.heap.size, 0, none⟩ = some (.int .i64 c0) ∧ w5.cell? ⟨w4.heap.size, 1, none⟩ = some (.int .i64 c1) ∧ w5.cell? ⟨w4.heap.size, 2, none⟩ = some (.int .i64 c2) ∧ w5.cell? ⟨w4.heap.size, 3, none⟩ = some (.int .i64 c3) ∧ w5.cell? ⟨w4.heap.size, 4, none⟩ = some (.int .i64 c4) ∧ w5.cell? ⟨w4.heap.size, 5, none⟩ = some (.int .i64 c5) ∧ w5.cell? ⟨w4.heap.size, 6, none⟩ = some (.int .i64 c6) ∧ w5.cell? ⟨w4.heap.size, 7, none⟩ = some (.int .i64 c7) ∧ w5.cell? ⟨w4.heap.size, 8, none⟩ = some (.int .i64 c8) ∧ w5.cell? ⟨w4.heap.size, 9, none⟩ = some (.int .i64 c9) ∧ w5.cell? ⟨w4.heap.size, 10, none⟩ = some (.int .i64 c10) ∧ w5.cell? ⟨w4.heap.size, 11, none⟩ = some (.int .i64 c11) ∧ w5.cell? ⟨w4.heap.size, 12, none⟩ = some (.int .i64 c12) ∧ w5.cell? ⟨w4.heap.size, 13, none⟩ = some (.int .i64 c13) ∧ w5.cell? ⟨w4.heap.size, 14, none⟩ = some (.int .i64 c14) := ⟨(Array.getElem?_eq_some_iff.1 hnw5).1, (cell_of_row _ _ 0 _ _ _ hnw5).trans rfl, (cell_of_row _ _ 1 _ _ _ hnw5).trans rfl, (cell_of_row _ _ 2 _ _ _ hnw5).trans rfl, (cell_of_row _ _ 3 _ _ _ hnw5).trans rfl, (cell_of_row _ _ 4 _ _ _ hnw5).trans rfl, (cell_of_row _ _ 5 _ _ _ hnw5).trans rfl, (cell_of_row _ _ 6 _ _ _ hnw5).trans rfl, (cell_of_row _ _ 7 _ _ _ hnw5).trans rfl, (cell_of_row _ _ 8 _ _ _ hnw5).trans rfl, (cell_of_row _ _ 9 _ _ _ hnw5).trans rfl, (cell_of_row _ _ 10 _ _ _ hnw5).trans rfl, (cell_of_row _ _ 11 _ _ _ hnw5).trans rfl, (cell_of_row _ _ 12 _ _ _ hnw5).trans rfl, (cell_of_row _ _ 13 _ _ _ hnw5).trans rfl, (cell_of_row _ _ 14 _ _ _ hnw5).trans rfl⟩
  rw [hww5]
  have HWw5 := Lib.hid hww5
  clear hww5
  have HB5 := Lib.hid (bT hB4 hbw5)
  replace hr := hr.below hbw5
  clear hB4 hbw5 hnw5 HWw5
  have P5 := layPut_any c0 c1 c2 c3 c4 c5 c6 c7 c8 c9 c10 c11 c12 c13 c14 w5 hvc
  rw [hput] at P5
  refine P5.mono ?_
  rintro e w6 ⟨y, rfl, yo, hb6⟩
  clear P5
  obtain ⟨yA, yc, rfl, hy1, hy2⟩ := own_slice yo
  have yr := RdI.of_own yo
  unfold maxLen at hy2
  have hC6 := sh_below hCw5 hb6
  replace hr := hr.below hb6
  have HB6 := Lib.hid (bT HB5.out hb6)
  clear yo hb6 hCw5
  go_wp2_with fail
  refine (laid_any _).mono ?_
  rintro e w7 ⟨rfl, hb7⟩
  have hC7 := sh_below hC6 hb7
  replace hr := hr.below hb7
  replace yr := yr.below hb7
  have HB7 := Lib.hid (bT HB6.out hb7)
  clear hb7 hC6
  go_wp2_with fail
  refine (same01_any _ _ _ _ l l _ yr hr (by omega) (by omega)).mono ?_
  rintro e w8 ⟨he, n8, hw8⟩
  rw [show (l == l) = true from by simp] at he
  subst he
  have hb8 : Below w7.heap.size w7 w8 := by rw [hw8]; exact bN (Below.refl _ _) n8
  clear hw8
  have hC8 := sh_below hC7 hb8
  have HB8 := Lib.hid (bT HB7.out hb8)
  clear hb8 hC7 hr yr
  go_wp2_with fail
  refine (tk_any c0 c1 c2 c3 c4 c5 c6 c7 c8 c9 c10 _).mono ?_
  rintro e w9 ⟨he, hb9⟩
  rw [HT.out] at he
  subst he
  have hC9 := sh_below hC8 hb9
  have HB9 := Lib.hid (bT HB8.out hb9)
  clear hb9 hC8
  go_wp2_with fail
  refine (suits_any c0 c1 c2 c3 c4 c5 c6 c7 c8 c9 c10 c12 c13 _).mono ?_
  rintro e w10 ⟨he, hb10⟩
  rw [HS.out] at he
  subst he
  have HB10 := Lib.hid (bT HB9.out hb10)
  clear hb10
  go_wp2
  go_ret
  exact ⟨by simp, HB10.out⟩


theorem layoutBack_any (a0 a1 a2 a3 a4 a5 a6 a7 a8 a9 a10 a11 a12 a13 a14 : Int) (A : Option Addr) (c : Nat) (l : List Int) (w : World) (hv : ∀ x ∈ [a0, a1, a2, a3, a4, a5, a6, a7, a8, a9, a10, a11, a12, a13, a14], x ≤ 9223372036854775807) (hr : RdI w .u8 A l) (hlc : l.length ≤ c ∧ c ≤ 9223372036854775807) (hb : ∀ x ∈ l, 0 ≤ x ∧ x < 256) :
    Calls Try.prog 15 #[.agg #[.int .i64 a0, .int .i64 a1, .int .i64 a2, .int .i64 a3, .int .i64 a4, .int .i64 a5, .int .i64 a6, .int .i64 a7, .int .i64 a8, .int .i64 a9, .int .i64 a10, .int .i64 a11, .int .i64 a12, .int .i64 a13, .int .i64 a14], .slice A l.length c] w fun e w' => e = .returned (.bool true) ∧ Below w.heap.size w w' := by
  obtain ⟨⟨l1, e1⟩, hrr⟩ : ∃ r, layR (tkB a0 a1 a2 a3 a4 a5 a6 a7 a8 a9 a10) [a0, a1, a2, a3, a4, a5, a6, a7, a8, a9, a10, a11, a12, a13, a14] = r := ⟨_, rfl⟩
  by_cases h : e1 = 0
  · subst h
    by_cases hl : 1000 < l.length
    · exact layoutBack_ok1 a0 a1 a2 a3 a4 a5 a6 a7 a8 a9 a10 a11 a12 a13 a14 A c l l1 0 w hv hr hlc.1 hlc.2 hb hrr hl
    by_cases hf : (layG l).2 = 0
    · exact layoutBack_ok3 a0 a1 a2 a3 a4 a5 a6 a7 a8 a9 a10 a11 a12 a13 a14 A c l l1 0 w hv hr hlc.1 hlc.2 hb hrr hl hf
    · exact layoutBack_ok2 a0 a1 a2 a3 a4 a5 a6 a7 a8 a9 a10 a11 a12 a13 a14 A c l l1 0 w hv hr hlc.1 hlc.2 hb hrr hl hf
  · have d0 : (e1 == 0) = false := by simpa using h
    by_cases hl : 1000 < l.length
    · exact layoutBack_no1 a0 a1 a2 a3 a4 a5 a6 a7 a8 a9 a10 a11 a12 a13 a14 A c l l1 e1 w hv hr hlc.1 hlc.2 hb hrr d0 hl
    by_cases hf : (layG l).2 = 0
    · exact layoutBack_no3 a0 a1 a2 a3 a4 a5 a6 a7 a8 a9 a10 a11 a12 a13 a14 A c l l1 e1 w hv hr hlc.1 hlc.2 hb hrr d0 hl hf
    · exact layoutBack_no2 a0 a1 a2 a3 a4 a5 a6 a7 a8 a9 a10 a11 a12 a13 a14 A c l l1 e1 w hv hr hlc.1 hlc.2 hb hrr d0 hl hf
end Go.Proofs.Ythejnlelegcgfaa
