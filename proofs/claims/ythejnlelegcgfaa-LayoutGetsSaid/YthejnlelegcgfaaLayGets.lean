/- Layer 13's law LayoutGets: what digits say is what the document's answer says. Condition: the digits are bytes, in a row of Go's size. -/
import Derived.Test.YthejnlelegcgfaaLayPure
namespace Go.Proofs.Ythejnlelegcgfaa
open Go.RowKit
set_option linter.unusedVariables false
set_option linter.unusedSimpArgs false

set_option maxHeartbeats 4000000 in
set_option maxRecDepth 100000 in
theorem layoutGets_any (A : Option Addr) (c : Nat) (l : List Int) (w : World) (hr : RdI w .u8 A l) (hlc : l.length ≤ c) (hc9 : c ≤ 9223372036854775807) (hb : ∀ x ∈ l, 0 ≤ x ∧ x < 256) :
    Calls Try.prog 14 #[.slice A l.length c] w fun e w' => e = .returned (.bool true) ∧ Below w.heap.size w w' := by
  by_cases hl : 1000 < l.length
  · have d1 : decide (1000 < (l.length : Int)) = true := by simpa using (show (1000 : Int) < l.length by omega)
    go_enter Try.func14, Try.ntmps14
    go_wp2
    go_ret
    exact ⟨rfl, bR _⟩
  have d1 : decide (1000 < (l.length : Int)) = false := by simpa using (show ¬ (1000 : Int) < l.length by omega)
  obtain ⟨c0, c1, c2, c3, c4, c5, c6, c7, c8, c9, c10, c11, c12, c13, c14, hc⟩ := layG_15 l
  obtain ⟨e1, he1⟩ : ∃ e1, (layG l).2 = e1 := ⟨_, rfl⟩
  have hG : layG l = ([c0, c1, c2, c3, c4, c5, c6, c7, c8, c9, c10, c11, c12, c13, c14], e1) := Prod.ext hc he1
  clear hc he1
  go_enter Try.func14, Try.ntmps14
  go_wp2_with fail
  have P1 := layGet_any A c l w hr hlc hc9 hb
  rw [hG] at P1
  refine P1.mono ?_
  rintro e w1 ⟨rfl, hb1⟩
  clear P1
  go_wp2_with fail
  obtain ⟨w2, hww2⟩ : ∃ w2, w1.alloc (.cells #[.int .i64 c0, .int .i64 c1, .int .i64 c2, .int .i64 c3, .int .i64 c4, .int .i64 c5, .int .i64 c6, .int .i64 c7, .int .i64 c8, .int .i64 c9, .int .i64 c10, .int .i64 c11, .int .i64 c12, .int .i64 c13, .int .i64 c14] 52) = w2 := ⟨_, rfl⟩
  have hnw2 : w2.heap[w1.heap.size]? = some (.cells #[.int .i64 c0, .int .i64 c1, .int .i64 c2, .int .i64 c3, .int .i64 c4, .int .i64 c5, .int .i64 c6, .int .i64 c7, .int .i64 c8, .int .i64 c9, .int .i64 c10, .int .i64 c11, .int .i64 c12, .int .i64 c13, .int .i64 c14] 52 (0, 0)) := by rw [← hww2]; exact heap_alloc_new _ _
  have hbw2 : Below w1.heap.size w1 w2 := by rw [← hww2]; exact bel1 _ _
  have hCw2 : w1.heap.size < w2.heap.size ∧ w2.cell? ⟨w1.heap.size, 0, none⟩ = some (.int .i64 c0) ∧ w2.cell? ⟨w1.heap.size, 1, none⟩ = some (.int .i64 c1) ∧ w2.cell? ⟨w1.heap.size, 2, none⟩ = some (.int .i64 c2) ∧ w2.cell? ⟨w1.heap.size, 3, none⟩ = some (.int .i64 c3) ∧ w2.cell? ⟨w1.heap.size, 4, none⟩ = some (.int .i64 c4) ∧ w2.cell? ⟨w1.heap.size, 5, none⟩ = some (.int .i64 c5) ∧ w2.cell? ⟨w1.heap.size, 6, none⟩ = some (.int .i64 c6) ∧ w2.cell? ⟨w1.heap.size, 7, none⟩ = some (.int .i64 c7) ∧ w2.cell? ⟨w1.heap.size, 8, none⟩ = some (.int .i64 c8) ∧ w2.cell? ⟨w1.heap.size, 9, none⟩ = some (.int .i64 c9) ∧ w2.cell? ⟨w1.heap.size, 10, none⟩ = some (.int .i64 c10) ∧ w2.cell? ⟨w1.heap.size, 11, none⟩ = some (.int .i64 c11) ∧ w2.cell? ⟨w1.heap.size, 12, none⟩ = some (.int .i64 c12) ∧ w2.cell? ⟨w1.heap.size, 13, none⟩ = some (.int .i64 c13) ∧ w2.cell? ⟨w1.heap.size, 14, none⟩ = some (.int .i64 c14) := ⟨(Array.getElem?_eq_some_iff.1 hnw2).1, (cell_of_row _ _ 0 _ _ _ hnw2).trans rfl, (cell_of_row _ _ 1 _ _ _ hnw2).trans rfl, (cell_of_row _ _ 2 _ _ _ hnw2).trans rfl, (cell_of_row _ _ 3 _ _ _ hnw2).trans rfl, (cell_of_row _ _ 4 _ _ _ hnw2).trans rfl, (cell_of_row _ _ 5 _ _ _ hnw2).trans rfl, (cell_of_row _ _ 6 _ _ _ hnw2).trans rfl, (cell_of_row _ _ 7 _ _ _ hnw2).trans rfl, (cell_of_row _ _ 8 _ _ _ hnw2).trans rfl, (cell_of_row _ _ 9 _ _ _ hnw2).trans rfl, (cell_of_row _ _ 10 _ _ _ hnw2).trans rfl, (cell_of_row _ _ 11 _ _ _ hnw2).trans rfl, (cell_of_row _ _ 12 _ _ _ hnw2).trans rfl, (cell_of_row _ _ 13 _ _ _ hnw2).trans rfl, (cell_of_row _ _ 14 _ _ _ hnw2).trans rfl⟩
  rw [hww2]
  have HWw2 := Lib.hid hww2
  clear hww2
  replace hr := (hr.below hb1).below hbw2
  have hB2 := bT hb1 hbw2
  have P2 := refLayGet_any A c l w2 hr hlc hc9 hb
  rw [hG] at P2
  refine P2.mono ?_
  rintro e w3 ⟨rfl, hb3⟩
  clear P2 hr hbw2 hnw2 hb1
  have hC3 := sh_below hCw2 hb3
  have hB3 := bT hB2 hb3
  clear hCw2 hB2 hb3 HWw2
  go_wp2_with fail
  obtain ⟨w4, hww4⟩ : ∃ w4, w3.alloc (.cells #[.int .i64 c0, .int .i64 c1, .int .i64 c2, .int .i64 c3, .int .i64 c4, .int .i64 c5, .int .i64 c6, .int .i64 c7, .int .i64 c8, .int .i64 c9, .int .i64 c10, .int .i64 c11, .int .i64 c12, .int .i64 c13, .int .i64 c14] 52) = w4 := ⟨_, rfl⟩
  have hnw4 : w4.heap[w3.heap.size]? = some (.cells #[.int .i64 c0, .int .i64 c1, .int .i64 c2, .int .i64 c3, .int .i64 c4, .int .i64 c5, .int .i64 c6, .int .i64 c7, .int .i64 c8, .int .i64 c9, .int .i64 c10, .int .i64 c11, .int .i64 c12, .int .i64 c13, .int .i64 c14] 52 (0, 0)) := by rw [← hww4]; exact heap_alloc_new _ _
  have hbw4 : Below w3.heap.size w3 w4 := by rw [← hww4]; exact bel1 _ _
  have hCw4 : w3.heap.size < w4.heap.size ∧ w4.cell? ⟨w3.heap.size, 0, none⟩ = some (.int .i64 c0) ∧ w4.cell? ⟨w3.heap.size, 1, none⟩ = some (.int .i64 c1) ∧ w4.cell? ⟨w3.heap.size, 2, none⟩ = some (.int .i64 c2) ∧ w4.cell? ⟨w3.heap.size, 3, none⟩ = some (.int .i64 c3) ∧ w4.cell? ⟨w3.heap.size, 4, none⟩ = some (.int .i64 c4) ∧ w4.cell? ⟨w3.heap.size, 5, none⟩ = some (.int .i64 c5) ∧ w4.cell? ⟨w3.heap.size, 6, none⟩ = some (.int .i64 c6) ∧ w4.cell? ⟨w3.heap.size, 7, none⟩ = some (.int .i64 c7) ∧ w4.cell? ⟨w3.heap.size, 8, none⟩ = some (.int .i64 c8) ∧ w4.cell? ⟨w3.heap.size, 9, none⟩ = some (.int .i64 c9) ∧ w4.cell? ⟨w3.heap.size, 10, none⟩ = some (.int .i64 c10) ∧ w4.cell? ⟨w3.heap.size, 11, none⟩ = some (.int .i64 c11) ∧ w4.cell? ⟨w3.heap.size, 12, none⟩ = some (.int .i64 c12) ∧ w4.cell? ⟨w3.heap.size, 13, none⟩ = some (.int .i64 c13) ∧ w4.cell? ⟨w3.heap.size, 14, none⟩ = some (.int .i64 c14) := ⟨(Array.getElem?_eq_some_iff.1 hnw4).1, (cell_of_row _ _ 0 _ _ _ hnw4).trans rfl, (cell_of_row _ _ 1 _ _ _ hnw4).trans rfl, (cell_of_row _ _ 2 _ _ _ hnw4).trans rfl, (cell_of_row _ _ 3 _ _ _ hnw4).trans rfl, (cell_of_row _ _ 4 _ _ _ hnw4).trans rfl, (cell_of_row _ _ 5 _ _ _ hnw4).trans rfl, (cell_of_row _ _ 6 _ _ _ hnw4).trans rfl, (cell_of_row _ _ 7 _ _ _ hnw4).trans rfl, (cell_of_row _ _ 8 _ _ _ hnw4).trans rfl, (cell_of_row _ _ 9 _ _ _ hnw4).trans rfl, (cell_of_row _ _ 10 _ _ _ hnw4).trans rfl, (cell_of_row _ _ 11 _ _ _ hnw4).trans rfl, (cell_of_row _ _ 12 _ _ _ hnw4).trans rfl, (cell_of_row _ _ 13 _ _ _ hnw4).trans rfl, (cell_of_row _ _ 14 _ _ _ hnw4).trans rfl⟩
  rw [hww4]
  have HWw4 := Lib.hid hww4
  clear hww4
  have hX4 := sh_below hC3 hbw4
  have HB4 := Lib.hid (bT hB3 hbw4)
  clear hC3 hbw4 hnw4 hB3 HWw4 hG
  go_wp2_with (go_at_call 49; (with_reducible refine (laid_any _).mono ?_); rintro e w5 ⟨rfl, hb5⟩; have hX5 := sh_below hX4 hb5; have hY5 := sh_below hCw4 hb5; have HB5 := Lib.hid (bT HB4.out hb5); clear hb5)
  go_ret
  exact ⟨by simp, HB5.out⟩
end Go.Proofs.Ythejnlelegcgfaa
