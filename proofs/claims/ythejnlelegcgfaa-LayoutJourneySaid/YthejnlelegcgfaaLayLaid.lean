/- Layer 13's example: laid returns true. No condition. -/
import Derived.Test.YthejnlelegcgfaaLayGetRef
import Derived.Test.YthejnlelegcgfaaLayPutRef
import Derived.Test.YthejnlelegcgfaaSame
namespace Go.Proofs.Ythejnlelegcgfaa
open Go.RowKit
set_option linter.unusedVariables false
set_option linter.unusedSimpArgs false

theorem laid_e1 : layR (tkB 42 4 3 20 2 1 0 100 30 10 2) [42, 4, 3, 20, 2, 1, 0, 100, 30, 10, 2, 5, 9, 4, 0] = ([4, 0, 0, 0, 0, 0, 4, 2, 2, 1, 0, 0, 1, 0, 0, 0, 3, 0, 2, 0, 3, 2, 0, 1, 0, 0, 9, 0, 4, 0, 5], 0) := by decide +kernel
theorem laid_e2 : layG [4, 0, 0, 0, 0, 0, 4, 2, 2, 1, 0, 0, 1, 0, 0, 0, 3, 0, 2, 0, 3, 2, 0, 1, 0, 0, 9, 0, 4, 0, 5] = ([42, 4, 3, 20, 2, 1, 0, 100, 30, 10, 2, 5, 9, 4, 0], 0) := by decide +kernel
theorem laid_e3 : layR (tkB 42 4 3 20 2 1 1 100 30 10 2) [42, 4, 3, 20, 2, 1, 1, 100, 30, 10, 2, 5, 9, 4, 0] = ([], 18) := by decide +kernel
theorem laid_e4 : layR (tkB 42 4 3 20 2 1 1 100 30 10 2) [42, 4, 3, 20, 2, 1, 1, 100, 30, 10, 2, 5, 11, 4, 0] = ([], 1) := by decide +kernel
theorem laid_e5 : layG [5, 1] = ([0, 0, 0, 0, 0, 0, 0, 0, 0, 0, 0, 0, 0, 0, 0], 8) := by decide +kernel
theorem laid_e6 : layG [1, 1] = ([0, 0, 0, 0, 0, 0, 0, 0, 0, 0, 0, 0, 0, 0, 0], 14) := by decide +kernel

theorem laid_e7 : wsL 3 = [1, 7, 1, 1, 5, 3, 1, 1, 1, 2, 2, 2] := by decide +kernel
theorem laid_e8 : wsE 3 = 0 := by decide +kernel
theorem laid_e9 : ([4, 0, 0, 0, 0, 0, 4, 2, 2, 1, 0, 0, 1, 0, 0, 0, 3, 0, 2, 0, 3, 2, 0, 1, 0, 0, 9, 0, 4, 0, 5] == ([4, 0, 0, 0, 0, 0, 4, 2, 2, 1, 0, 0, 1, 0, 0, 0, 3, 0, 2, 0, 3, 2, 0, 1, 0, 0, 9, 0, 4, 0, 5] : List Int)) = true := by decide +kernel
theorem laid_e10 : suB 10 10 40 = true := by decide +kernel
theorem laid_e11 : suB 10 11 4 = false := by decide +kernel
theorem RdI.setCell {W : World} {k : IntKind} {A : Option Addr} {l : List Int} {b o : Nat} {v : Value} (h : RdI W k A l) (hne : ∀ ad, A = some ad → ad.block ≠ b) : RdI (W.setCell ⟨b, o, none⟩ v) k A l := by
  rcases h with h | ⟨ad, rfl, hlt, hc⟩
  · exact .inl h
  · refine .inr ⟨ad, rfl, ?_, fun j hj => (World.cell?_of_block (Below.heap_setCell _ _ _ _ (by have h := hne ad rfl; unfold Addr.add; split <;> simpa using h))).trans (hc j hj)⟩
    show _ < (W.heap.modify _ _).size
    rw [Array.size_modify]; exact hlt
theorem results_cell1 {P : Program} {fn : Func} {t : Tmp} {T ty : TypeId} (h : fn.results = #[.cell t T]) {d : TypeDesc} (hu : P.underlying T = some d) (hd : (match d with | .struct _ | .array _ _ => true | _ => false) = true)
    {tmps : Array Value} {g : Nat} {cs : Array Value} {fr : Nat × Nat} (hp : tmps.getD t undef = .pointer (some ⟨g, 0, none⟩)) {w : World} (hg : w.heap[g]? = some (.cells cs ty fr)) (hi : (P.info? T).map (·.size) = some cs.size) :
    (results fn tmps).run P w = .ok (.agg cs) w := by
  have hl := run_loadVar_row (P := P) w g ty T cs fr d hg hu hd hi
  simp only [results, h, Array.mapM_eq_mapM_toList, List.mapM_cons, List.mapM_nil]
  simp [Sem.run_bind, hp, asAddr, hl, Result.andThen]

theorem plain_any (w : World) : Calls Try.prog 68 #[] w fun e w' => e = .returned (.agg #[.int .i64 42, .int .i64 4, .int .i64 3, .int .i64 20, .int .i64 2, .int .i64 1, .int .i64 0, .int .i64 100, .int .i64 30, .int .i64 10, .int .i64 2, .int .i64 5, .int .i64 9, .int .i64 4, .int .i64 0]) ∧ Below w.heap.size w w' := by
  go_enter Try.func68, Try.ntmps68
  go_wp2
  exact ⟨rfl, _, results_cell1 rfl Try.underlying52 rfl rfl (heap_alloc_new w _) (by kernel_rfl), rfl, bel1 _ _⟩

set_option maxHeartbeats 4000000 in
set_option maxRecDepth 100000 in
theorem laid_any (w : World) : Calls Try.prog 49 #[] w fun e w' => e = .returned (.bool true) ∧ Below w.heap.size w w' := by
  go_enter Try.func49, Try.ntmps49
  go_wp2_with fail
  refine (plain_any _).mono ?_
  rintro e w0 ⟨rfl, hb0⟩
  have HB0 := Lib.hid hb0
  have hw0 := hb0.size
  clear hb0
  go_wp2_with fail
  have P1 := layPut_any 42 4 3 20 2 1 0 100 30 10 2 5 9 4 0 (w0.alloc (.cells #[.int .i64 42, .int .i64 4, .int .i64 3, .int .i64 20, .int .i64 2, .int .i64 1, .int .i64 0, .int .i64 100, .int .i64 30, .int .i64 10, .int .i64 2, .int .i64 5, .int .i64 9, .int .i64 4, .int .i64 0] 52)) (by decide)
  rw [laid_e1] at P1
  refine P1.mono ?_
  rintro e w1 ⟨u, rfl, uo, hb1⟩
  clear P1
  obtain ⟨uA, uc, rfl, hu1, hu2⟩ := own_slice uo
  have ur := RdI.of_own uo
  unfold maxLen at hu2
  have hune : ∀ ad, uA = some ad → ad.block ≠ w0.heap.size := by intro ad e; have := own_ge uo ad.block (by rw [e]; rfl); simp at this; omega
  have hR1 : w1.heap[w0.heap.size]? = some (.cells #[.int .i64 42, .int .i64 4, .int .i64 3, .int .i64 20, .int .i64 2, .int .i64 1, .int .i64 0, .int .i64 100, .int .i64 30, .int .i64 10, .int .i64 2, .int .i64 5, .int .i64 9, .int .i64 4, .int .i64 0] 52 (0, 0)) := (hb1.block w0.heap.size (by simp)).trans (heap_alloc_new w0 _)
  have hs1 := (Array.getElem?_eq_some_iff.1 hR1).1
  have HB1 := Lib.hid (bT (bA HB0.out _) hb1)
  clear uo hb1
  go_wp2_with fail
  have P2 := layGet_any uA uc [4, 0, 0, 0, 0, 0, 4, 2, 2, 1, 0, 0, 1, 0, 0, 0, 3, 0, 2, 0, 3, 2, 0, 1, 0, 0, 9, 0, 4, 0, 5] w1 ur hu1 (by omega) (by decide)
  rw [laid_e2] at P2
  refine P2.mono ?_
  rintro e w2 ⟨rfl, hb2⟩
  clear P2
  have hR2 := (hb2.block _ hs1).trans hR1
  replace ur := ur.below hb2
  have HB2 := Lib.hid (bT HB1.out hb2)
  have hs2 := (Array.getElem?_eq_some_iff.1 hR2).1
  clear hb2 hR1 hs1
  have hC2 : w0.heap.size < w2.heap.size ∧ w2.cell? ⟨w0.heap.size, 0, none⟩ = some (.int .i64 42) ∧ w2.cell? ⟨w0.heap.size, 1, none⟩ = some (.int .i64 4) ∧ w2.cell? ⟨w0.heap.size, 2, none⟩ = some (.int .i64 3) ∧ w2.cell? ⟨w0.heap.size, 3, none⟩ = some (.int .i64 20) ∧ w2.cell? ⟨w0.heap.size, 4, none⟩ = some (.int .i64 2) ∧ w2.cell? ⟨w0.heap.size, 5, none⟩ = some (.int .i64 1) ∧ w2.cell? ⟨w0.heap.size, 6, none⟩ = some (.int .i64 0) ∧ w2.cell? ⟨w0.heap.size, 7, none⟩ = some (.int .i64 100) ∧ w2.cell? ⟨w0.heap.size, 8, none⟩ = some (.int .i64 30) ∧ w2.cell? ⟨w0.heap.size, 9, none⟩ = some (.int .i64 10) ∧ w2.cell? ⟨w0.heap.size, 10, none⟩ = some (.int .i64 2) ∧ w2.cell? ⟨w0.heap.size, 11, none⟩ = some (.int .i64 5) ∧ w2.cell? ⟨w0.heap.size, 12, none⟩ = some (.int .i64 9) ∧ w2.cell? ⟨w0.heap.size, 13, none⟩ = some (.int .i64 4) ∧ w2.cell? ⟨w0.heap.size, 14, none⟩ = some (.int .i64 0) := ⟨(Array.getElem?_eq_some_iff.1 hR2).1, (cell_of_row _ _ 0 _ _ _ hR2).trans rfl, (cell_of_row _ _ 1 _ _ _ hR2).trans rfl, (cell_of_row _ _ 2 _ _ _ hR2).trans rfl, (cell_of_row _ _ 3 _ _ _ hR2).trans rfl, (cell_of_row _ _ 4 _ _ _ hR2).trans rfl, (cell_of_row _ _ 5 _ _ _ hR2).trans rfl, (cell_of_row _ _ 6 _ _ _ hR2).trans rfl, (cell_of_row _ _ 7 _ _ _ hR2).trans rfl, (cell_of_row _ _ 8 _ _ _ hR2).trans rfl, (cell_of_row _ _ 9 _ _ _ hR2).trans rfl, (cell_of_row _ _ 10 _ _ _ hR2).trans rfl, (cell_of_row _ _ 11 _ _ _ hR2).trans rfl, (cell_of_row _ _ 12 _ _ _ hR2).trans rfl, (cell_of_row _ _ 13 _ _ _ hR2).trans rfl, (cell_of_row _ _ 14 _ _ _ hR2).trans rfl⟩
  have hf2 : ∀ o, w2.frozen? ⟨w0.heap.size, o, none⟩ = false := by intro o; simp [World.frozen?, hR2]
  have HR2 := Lib.hid hR2
  clear hR2
  go_wp2_with fail
  obtain ⟨w3, hw3⟩ : ∃ w3, (w2.setCell ⟨w0.heap.size, 6, none⟩ (.int .i64 1)).alloc (.cells #[.int .i64 42, .int .i64 4, .int .i64 3, .int .i64 20, .int .i64 2, .int .i64 1, .int .i64 0, .int .i64 100, .int .i64 30, .int .i64 10, .int .i64 2, .int .i64 5, .int .i64 9, .int .i64 4, .int .i64 0] 52) = w3 := ⟨_, rfl⟩
  have hR3 : w3.heap[w0.heap.size]? = some (.cells #[.int .i64 42, .int .i64 4, .int .i64 3, .int .i64 20, .int .i64 2, .int .i64 1, .int .i64 1, .int .i64 100, .int .i64 30, .int .i64 10, .int .i64 2, .int .i64 5, .int .i64 9, .int .i64 4, .int .i64 0] 52 (0, 0)) := by rw [← hw3]; exact (Below.heap_alloc _ _ _ (by show _ < (w2.heap.modify _ _).size; rw [Array.size_modify]; exact hs2)).trans (row_set HR2.out 6 _)
  have hX3 : w3.heap[w2.heap.size]? = some (.cells #[.int .i64 42, .int .i64 4, .int .i64 3, .int .i64 20, .int .i64 2, .int .i64 1, .int .i64 0, .int .i64 100, .int .i64 30, .int .i64 10, .int .i64 2, .int .i64 5, .int .i64 9, .int .i64 4, .int .i64 0] 52 (0, 0)) := by rw [← hw3]; exact (congrArg (fun n => ((w2.setCell ⟨w0.heap.size, 6, none⟩ (.int .i64 1)).alloc _).heap[n]?) (by show _ = (w2.heap.modify _ _).size; rw [Array.size_modify])).trans (heap_alloc_new _ _)
  have HB3 : Hid (Below w.heap.size w w3) := Lib.hid (by rw [← hw3]; exact bA (bS HB2.out hw0) _)
  replace ur : RdI w3 .u8 uA [4, 0, 0, 0, 0, 0, 4, 2, 2, 1, 0, 0, 1, 0, 0, 0, 3, 0, 2, 0, 3, 2, 0, 1, 0, 0, 9, 0, 4, 0, 5] := by rw [← hw3]; exact (RdI.setCell ur hune).below (bel1 _ _)
  have hs3 := (Array.getElem?_eq_some_iff.1 hR3).1
  have hx3 := (Array.getElem?_eq_some_iff.1 hX3).1
  rw [hw3]
  have HW3 := Lib.hid hw3
  clear hw3 hC2 hf2
  have P3 := layPut_any 42 4 3 20 2 1 1 100 30 10 2 5 9 4 0 w3 (by decide)
  rw [laid_e3] at P3
  refine P3.mono ?_
  rintro e w4 ⟨v, rfl, vo, hb4⟩
  clear P3
  obtain ⟨vA, vc, rfl, _, _⟩ := own_slice vo
  clear vo
  have hR4 := (Below.block hb4 _ hs3).trans hR3
  have hX4 := (Below.block hb4 _ hx3).trans hX3
  replace ur := ur.below hb4
  have HB4 := Lib.hid (bT HB3.out hb4)
  have hs4 := (Array.getElem?_eq_some_iff.1 hR4).1
  have hx4 := (Array.getElem?_eq_some_iff.1 hX4).1
  clear hb4 hR3 hX3 hs3 hx3
  have hC4 : w0.heap.size < w4.heap.size ∧ w4.cell? ⟨w0.heap.size, 0, none⟩ = some (.int .i64 42) ∧ w4.cell? ⟨w0.heap.size, 1, none⟩ = some (.int .i64 4) ∧ w4.cell? ⟨w0.heap.size, 2, none⟩ = some (.int .i64 3) ∧ w4.cell? ⟨w0.heap.size, 3, none⟩ = some (.int .i64 20) ∧ w4.cell? ⟨w0.heap.size, 4, none⟩ = some (.int .i64 2) ∧ w4.cell? ⟨w0.heap.size, 5, none⟩ = some (.int .i64 1) ∧ w4.cell? ⟨w0.heap.size, 6, none⟩ = some (.int .i64 1) ∧ w4.cell? ⟨w0.heap.size, 7, none⟩ = some (.int .i64 100) ∧ w4.cell? ⟨w0.heap.size, 8, none⟩ = some (.int .i64 30) ∧ w4.cell? ⟨w0.heap.size, 9, none⟩ = some (.int .i64 10) ∧ w4.cell? ⟨w0.heap.size, 10, none⟩ = some (.int .i64 2) ∧ w4.cell? ⟨w0.heap.size, 11, none⟩ = some (.int .i64 5) ∧ w4.cell? ⟨w0.heap.size, 12, none⟩ = some (.int .i64 9) ∧ w4.cell? ⟨w0.heap.size, 13, none⟩ = some (.int .i64 4) ∧ w4.cell? ⟨w0.heap.size, 14, none⟩ = some (.int .i64 0) := ⟨(Array.getElem?_eq_some_iff.1 hR4).1, (cell_of_row _ _ 0 _ _ _ hR4).trans rfl, (cell_of_row _ _ 1 _ _ _ hR4).trans rfl, (cell_of_row _ _ 2 _ _ _ hR4).trans rfl, (cell_of_row _ _ 3 _ _ _ hR4).trans rfl, (cell_of_row _ _ 4 _ _ _ hR4).trans rfl, (cell_of_row _ _ 5 _ _ _ hR4).trans rfl, (cell_of_row _ _ 6 _ _ _ hR4).trans rfl, (cell_of_row _ _ 7 _ _ _ hR4).trans rfl, (cell_of_row _ _ 8 _ _ _ hR4).trans rfl, (cell_of_row _ _ 9 _ _ _ hR4).trans rfl, (cell_of_row _ _ 10 _ _ _ hR4).trans rfl, (cell_of_row _ _ 11 _ _ _ hR4).trans rfl, (cell_of_row _ _ 12 _ _ _ hR4).trans rfl, (cell_of_row _ _ 13 _ _ _ hR4).trans rfl, (cell_of_row _ _ 14 _ _ _ hR4).trans rfl⟩
  have hf4 : ∀ o, w4.frozen? ⟨w0.heap.size, o, none⟩ = false := by intro o; simp [World.frozen?, hR4]
  have HR4 := Lib.hid hR4
  have HX4 := Lib.hid hX4
  clear hR4 hX4
  go_wp2_with fail
  obtain ⟨w5, hw5⟩ : ∃ w5, w4.setCell ⟨w0.heap.size, 12, none⟩ (.int .i64 11) = w5 := ⟨_, rfl⟩
  have hR5 : w5.heap[w0.heap.size]? = some (.cells #[.int .i64 42, .int .i64 4, .int .i64 3, .int .i64 20, .int .i64 2, .int .i64 1, .int .i64 1, .int .i64 100, .int .i64 30, .int .i64 10, .int .i64 2, .int .i64 5, .int .i64 11, .int .i64 4, .int .i64 0] 52 (0, 0)) := by rw [← hw5]; exact row_set HR4.out 12 _
  have hX5 : w5.heap[w2.heap.size]? = some (.cells #[.int .i64 42, .int .i64 4, .int .i64 3, .int .i64 20, .int .i64 2, .int .i64 1, .int .i64 0, .int .i64 100, .int .i64 30, .int .i64 10, .int .i64 2, .int .i64 5, .int .i64 9, .int .i64 4, .int .i64 0] 52 (0, 0)) := by rw [← hw5]; exact (Below.heap_setCell _ _ _ _ (by show w2.heap.size ≠ w0.heap.size; omega)).trans HX4.out
  have HB5 : Hid (Below w.heap.size w w5) := Lib.hid (by rw [← hw5]; exact bS HB4.out hw0)
  replace ur : RdI w5 .u8 uA [4, 0, 0, 0, 0, 0, 4, 2, 2, 1, 0, 0, 1, 0, 0, 0, 3, 0, 2, 0, 3, 2, 0, 1, 0, 0, 9, 0, 4, 0, 5] := by rw [← hw5]; exact RdI.setCell ur hune
  have hs5 := (Array.getElem?_eq_some_iff.1 hR5).1
  have hx5 := (Array.getElem?_eq_some_iff.1 hX5).1
  rw [hw5]
  have HW5 := Lib.hid hw5
  clear hw5 hC4 hf4
  have P4 := layPut_any 42 4 3 20 2 1 1 100 30 10 2 5 11 4 0 w5 (by decide)
  rw [laid_e4] at P4
  refine P4.mono ?_
  rintro e w6 ⟨v, rfl, vo, hb6⟩
  clear P4
  obtain ⟨vA2, vc2, rfl, _, _⟩ := own_slice vo
  clear vo
  have hR6 := (Below.block hb6 _ hs5).trans hR5
  have hX6 := (Below.block hb6 _ hx5).trans hX5
  replace ur := ur.below hb6
  have HB6 := Lib.hid (bT HB5.out hb6)
  have hs6 := (Array.getElem?_eq_some_iff.1 hR6).1
  have hx6 := (Array.getElem?_eq_some_iff.1 hX6).1
  clear hb6 hR5 hX5 hs5 hx5
  go_wp2_with fail
  have P5 := layGet_any (some ⟨w6.heap.size, 0, none⟩) 2 [5, 1] (w6.alloc (.cells #[.int .u8 5, .int .u8 1] 5)) (RdI.lit' (l := [5, 1]) rfl) (by decide) (by decide) (by decide)
  rw [laid_e5] at P5
  refine P5.mono ?_
  rintro e w7 ⟨rfl, hb7⟩
  clear P5
  replace hb7 := bT (bel1 w6 _) hb7
  have hR7 := (Below.block hb7 _ hs6).trans hR6
  have hX7 := (Below.block hb7 _ hx6).trans hX6
  replace ur := ur.below hb7
  have HB7 := Lib.hid (bT HB6.out hb7)
  have hs7 := (Array.getElem?_eq_some_iff.1 hR7).1
  have hx7 := (Array.getElem?_eq_some_iff.1 hX7).1
  clear hb7 hR6 hX6 hs6 hx6
  go_wp2_with fail
  obtain ⟨w8, hw8⟩ : ∃ w8, w7.alloc (.cells #[.int .i64 0, .int .i64 0, .int .i64 0, .int .i64 0, .int .i64 0, .int .i64 0, .int .i64 0, .int .i64 0, .int .i64 0, .int .i64 0, .int .i64 0, .int .i64 0, .int .i64 0, .int .i64 0, .int .i64 0] 52) = w8 := ⟨_, rfl⟩
  have hb8 : Below w7.heap.size w7 w8 := by rw [← hw8]; exact bel1 _ _
  have hR8 := (Below.block hb8 _ hs7).trans hR7
  have hX8 := (Below.block hb8 _ hx7).trans hX7
  replace ur := ur.below hb8
  have HB8 := Lib.hid (bT HB7.out hb8)
  have hs8 := (Array.getElem?_eq_some_iff.1 hR8).1
  have hx8 := (Array.getElem?_eq_some_iff.1 hX8).1
  have hz8 : w8.heap.size = w7.heap.size + 1 := by rw [← hw8]; simp
  rw [hw8]
  clear hw8 hb8 hR7 hX7 hs7 hx7
  have P6 := layGet_any (some ⟨w7.heap.size + 1, 0, none⟩) 2 [1, 1] (w8.alloc (.cells #[.int .u8 1, .int .u8 1] 5)) (RdI.lit' (l := [1, 1]) hz8) (by decide) (by decide) (by decide)
  rw [laid_e6] at P6
  refine P6.mono ?_
  rintro e w9 ⟨rfl, hb9⟩
  clear P6 hz8
  replace hb9 := bT (bel1 w8 _) hb9
  have hR9 := (Below.block hb9 _ hs8).trans hR8
  have hX9 := (Below.block hb9 _ hx8).trans hX8
  replace ur := ur.below hb9
  have HB9 := Lib.hid (bT HB8.out hb9)
  have hs9 := (Array.getElem?_eq_some_iff.1 hR9).1
  have hx9 := (Array.getElem?_eq_some_iff.1 hX9).1
  clear hb9 hR8 hX8 hs8 hx8
  go_wp2_with fail
  have P7 := layWidths_any 3 (w9.alloc (.cells #[.int .i64 0, .int .i64 0, .int .i64 0, .int .i64 0, .int .i64 0, .int .i64 0, .int .i64 0, .int .i64 0, .int .i64 0, .int .i64 0, .int .i64 0, .int .i64 0, .int .i64 0, .int .i64 0, .int .i64 0] 52))
  rw [laid_e7, laid_e8] at P7
  refine P7.mono ?_
  rintro e w10 ⟨y, rfl, yo, hb10⟩
  clear P7
  obtain ⟨yA, yc, rfl, _, _⟩ := own_slice yo
  replace hb10 := bT (bel1 w9 _) hb10
  clear yo
  have hR10 := (Below.block hb10 _ hs9).trans hR9
  have hX10 := (Below.block hb10 _ hx9).trans hX9
  replace ur := ur.below hb10
  have HB10 := Lib.hid (bT HB9.out hb10)
  have hs10 := (Array.getElem?_eq_some_iff.1 hR10).1
  have hx10 := (Array.getElem?_eq_some_iff.1 hX10).1
  clear hb10 hR9 hX9 hs9 hx9
  go_wp2_with fail
  have hC10 : w0.heap.size < w10.heap.size ∧ w10.cell? ⟨w0.heap.size, 0, none⟩ = some (.int .i64 42) ∧ w10.cell? ⟨w0.heap.size, 1, none⟩ = some (.int .i64 4) ∧ w10.cell? ⟨w0.heap.size, 2, none⟩ = some (.int .i64 3) ∧ w10.cell? ⟨w0.heap.size, 3, none⟩ = some (.int .i64 20) ∧ w10.cell? ⟨w0.heap.size, 4, none⟩ = some (.int .i64 2) ∧ w10.cell? ⟨w0.heap.size, 5, none⟩ = some (.int .i64 1) ∧ w10.cell? ⟨w0.heap.size, 6, none⟩ = some (.int .i64 1) ∧ w10.cell? ⟨w0.heap.size, 7, none⟩ = some (.int .i64 100) ∧ w10.cell? ⟨w0.heap.size, 8, none⟩ = some (.int .i64 30) ∧ w10.cell? ⟨w0.heap.size, 9, none⟩ = some (.int .i64 10) ∧ w10.cell? ⟨w0.heap.size, 10, none⟩ = some (.int .i64 2) ∧ w10.cell? ⟨w0.heap.size, 11, none⟩ = some (.int .i64 5) ∧ w10.cell? ⟨w0.heap.size, 12, none⟩ = some (.int .i64 11) ∧ w10.cell? ⟨w0.heap.size, 13, none⟩ = some (.int .i64 4) ∧ w10.cell? ⟨w0.heap.size, 14, none⟩ = some (.int .i64 0) := ⟨(Array.getElem?_eq_some_iff.1 hR10).1, (cell_of_row _ _ 0 _ _ _ hR10).trans rfl, (cell_of_row _ _ 1 _ _ _ hR10).trans rfl, (cell_of_row _ _ 2 _ _ _ hR10).trans rfl, (cell_of_row _ _ 3 _ _ _ hR10).trans rfl, (cell_of_row _ _ 4 _ _ _ hR10).trans rfl, (cell_of_row _ _ 5 _ _ _ hR10).trans rfl, (cell_of_row _ _ 6 _ _ _ hR10).trans rfl, (cell_of_row _ _ 7 _ _ _ hR10).trans rfl, (cell_of_row _ _ 8 _ _ _ hR10).trans rfl, (cell_of_row _ _ 9 _ _ _ hR10).trans rfl, (cell_of_row _ _ 10 _ _ _ hR10).trans rfl, (cell_of_row _ _ 11 _ _ _ hR10).trans rfl, (cell_of_row _ _ 12 _ _ _ hR10).trans rfl, (cell_of_row _ _ 13 _ _ _ hR10).trans rfl, (cell_of_row _ _ 14 _ _ _ hR10).trans rfl⟩
  have hY10 : w2.heap.size < w10.heap.size ∧ w10.cell? ⟨w2.heap.size, 0, none⟩ = some (.int .i64 42) ∧ w10.cell? ⟨w2.heap.size, 1, none⟩ = some (.int .i64 4) ∧ w10.cell? ⟨w2.heap.size, 2, none⟩ = some (.int .i64 3) ∧ w10.cell? ⟨w2.heap.size, 3, none⟩ = some (.int .i64 20) ∧ w10.cell? ⟨w2.heap.size, 4, none⟩ = some (.int .i64 2) ∧ w10.cell? ⟨w2.heap.size, 5, none⟩ = some (.int .i64 1) ∧ w10.cell? ⟨w2.heap.size, 6, none⟩ = some (.int .i64 0) ∧ w10.cell? ⟨w2.heap.size, 7, none⟩ = some (.int .i64 100) ∧ w10.cell? ⟨w2.heap.size, 8, none⟩ = some (.int .i64 30) ∧ w10.cell? ⟨w2.heap.size, 9, none⟩ = some (.int .i64 10) ∧ w10.cell? ⟨w2.heap.size, 10, none⟩ = some (.int .i64 2) ∧ w10.cell? ⟨w2.heap.size, 11, none⟩ = some (.int .i64 5) ∧ w10.cell? ⟨w2.heap.size, 12, none⟩ = some (.int .i64 9) ∧ w10.cell? ⟨w2.heap.size, 13, none⟩ = some (.int .i64 4) ∧ w10.cell? ⟨w2.heap.size, 14, none⟩ = some (.int .i64 0) := ⟨(Array.getElem?_eq_some_iff.1 hX10).1, (cell_of_row _ _ 0 _ _ _ hX10).trans rfl, (cell_of_row _ _ 1 _ _ _ hX10).trans rfl, (cell_of_row _ _ 2 _ _ _ hX10).trans rfl, (cell_of_row _ _ 3 _ _ _ hX10).trans rfl, (cell_of_row _ _ 4 _ _ _ hX10).trans rfl, (cell_of_row _ _ 5 _ _ _ hX10).trans rfl, (cell_of_row _ _ 6 _ _ _ hX10).trans rfl, (cell_of_row _ _ 7 _ _ _ hX10).trans rfl, (cell_of_row _ _ 8 _ _ _ hX10).trans rfl, (cell_of_row _ _ 9 _ _ _ hX10).trans rfl, (cell_of_row _ _ 10 _ _ _ hX10).trans rfl, (cell_of_row _ _ 11 _ _ _ hX10).trans rfl, (cell_of_row _ _ 12 _ _ _ hX10).trans rfl, (cell_of_row _ _ 13 _ _ _ hX10).trans rfl, (cell_of_row _ _ 14 _ _ _ hX10).trans rfl⟩
  have hS10 : ((w0.heap.size < w10.heap.size ∧ w10.cell? ⟨w0.heap.size, 0, none⟩ = some (.int .i64 42) ∧ w10.cell? ⟨w0.heap.size, 1, none⟩ = some (.int .i64 4) ∧ w10.cell? ⟨w0.heap.size, 2, none⟩ = some (.int .i64 3) ∧ w10.cell? ⟨w0.heap.size, 3, none⟩ = some (.int .i64 20) ∧ w10.cell? ⟨w0.heap.size, 4, none⟩ = some (.int .i64 2) ∧ w10.cell? ⟨w0.heap.size, 5, none⟩ = some (.int .i64 1) ∧ w10.cell? ⟨w0.heap.size, 6, none⟩ = some (.int .i64 1) ∧ w10.cell? ⟨w0.heap.size, 7, none⟩ = some (.int .i64 100) ∧ w10.cell? ⟨w0.heap.size, 8, none⟩ = some (.int .i64 30) ∧ w10.cell? ⟨w0.heap.size, 9, none⟩ = some (.int .i64 10) ∧ w10.cell? ⟨w0.heap.size, 10, none⟩ = some (.int .i64 2) ∧ w10.cell? ⟨w0.heap.size, 11, none⟩ = some (.int .i64 5) ∧ w10.cell? ⟨w0.heap.size, 12, none⟩ = some (.int .i64 11) ∧ w10.cell? ⟨w0.heap.size, 13, none⟩ = some (.int .i64 4) ∧ w10.cell? ⟨w0.heap.size, 14, none⟩ = some (.int .i64 0)) ∧ Below w10.heap.size w10 w10) ∧ ((w2.heap.size < w10.heap.size ∧ w10.cell? ⟨w2.heap.size, 0, none⟩ = some (.int .i64 42) ∧ w10.cell? ⟨w2.heap.size, 1, none⟩ = some (.int .i64 4) ∧ w10.cell? ⟨w2.heap.size, 2, none⟩ = some (.int .i64 3) ∧ w10.cell? ⟨w2.heap.size, 3, none⟩ = some (.int .i64 20) ∧ w10.cell? ⟨w2.heap.size, 4, none⟩ = some (.int .i64 2) ∧ w10.cell? ⟨w2.heap.size, 5, none⟩ = some (.int .i64 1) ∧ w10.cell? ⟨w2.heap.size, 6, none⟩ = some (.int .i64 0) ∧ w10.cell? ⟨w2.heap.size, 7, none⟩ = some (.int .i64 100) ∧ w10.cell? ⟨w2.heap.size, 8, none⟩ = some (.int .i64 30) ∧ w10.cell? ⟨w2.heap.size, 9, none⟩ = some (.int .i64 10) ∧ w10.cell? ⟨w2.heap.size, 10, none⟩ = some (.int .i64 2) ∧ w10.cell? ⟨w2.heap.size, 11, none⟩ = some (.int .i64 5) ∧ w10.cell? ⟨w2.heap.size, 12, none⟩ = some (.int .i64 9) ∧ w10.cell? ⟨w2.heap.size, 13, none⟩ = some (.int .i64 4) ∧ w10.cell? ⟨w2.heap.size, 14, none⟩ = some (.int .i64 0)) ∧ Below w10.heap.size w10 w10) ∧ RdI w10 .u8 uA [4, 0, 0, 0, 0, 0, 4, 2, 2, 1, 0, 0, 1, 0, 0, 0, 3, 0, 2, 0, 3, 2, 0, 1, 0, 0, 9, 0, 4, 0, 5] := ⟨⟨hC10, Below.refl _ _⟩, ⟨hY10, Below.refl _ _⟩, ur⟩
  clear hC10 hY10 hR10 hX10 hs10 hx10 ur hune
  refine wp_region_held_drew (S := fun w9 => ((w0.heap.size < w9.heap.size ∧ w9.cell? ⟨w0.heap.size, 0, none⟩ = some (.int .i64 42) ∧ w9.cell? ⟨w0.heap.size, 1, none⟩ = some (.int .i64 4) ∧ w9.cell? ⟨w0.heap.size, 2, none⟩ = some (.int .i64 3) ∧ w9.cell? ⟨w0.heap.size, 3, none⟩ = some (.int .i64 20) ∧ w9.cell? ⟨w0.heap.size, 4, none⟩ = some (.int .i64 2) ∧ w9.cell? ⟨w0.heap.size, 5, none⟩ = some (.int .i64 1) ∧ w9.cell? ⟨w0.heap.size, 6, none⟩ = some (.int .i64 1) ∧ w9.cell? ⟨w0.heap.size, 7, none⟩ = some (.int .i64 100) ∧ w9.cell? ⟨w0.heap.size, 8, none⟩ = some (.int .i64 30) ∧ w9.cell? ⟨w0.heap.size, 9, none⟩ = some (.int .i64 10) ∧ w9.cell? ⟨w0.heap.size, 10, none⟩ = some (.int .i64 2) ∧ w9.cell? ⟨w0.heap.size, 11, none⟩ = some (.int .i64 5) ∧ w9.cell? ⟨w0.heap.size, 12, none⟩ = some (.int .i64 11) ∧ w9.cell? ⟨w0.heap.size, 13, none⟩ = some (.int .i64 4) ∧ w9.cell? ⟨w0.heap.size, 14, none⟩ = some (.int .i64 0)) ∧ Below w10.heap.size w10 w9) ∧ ((w2.heap.size < w9.heap.size ∧ w9.cell? ⟨w2.heap.size, 0, none⟩ = some (.int .i64 42) ∧ w9.cell? ⟨w2.heap.size, 1, none⟩ = some (.int .i64 4) ∧ w9.cell? ⟨w2.heap.size, 2, none⟩ = some (.int .i64 3) ∧ w9.cell? ⟨w2.heap.size, 3, none⟩ = some (.int .i64 20) ∧ w9.cell? ⟨w2.heap.size, 4, none⟩ = some (.int .i64 2) ∧ w9.cell? ⟨w2.heap.size, 5, none⟩ = some (.int .i64 1) ∧ w9.cell? ⟨w2.heap.size, 6, none⟩ = some (.int .i64 0) ∧ w9.cell? ⟨w2.heap.size, 7, none⟩ = some (.int .i64 100) ∧ w9.cell? ⟨w2.heap.size, 8, none⟩ = some (.int .i64 30) ∧ w9.cell? ⟨w2.heap.size, 9, none⟩ = some (.int .i64 10) ∧ w9.cell? ⟨w2.heap.size, 10, none⟩ = some (.int .i64 2) ∧ w9.cell? ⟨w2.heap.size, 11, none⟩ = some (.int .i64 5) ∧ w9.cell? ⟨w2.heap.size, 12, none⟩ = some (.int .i64 9) ∧ w9.cell? ⟨w2.heap.size, 13, none⟩ = some (.int .i64 4) ∧ w9.cell? ⟨w2.heap.size, 14, none⟩ = some (.int .i64 0)) ∧ Below w10.heap.size w10 w9) ∧ RdI w9 .u8 uA [4, 0, 0, 0, 0, 0, 4, 2, 2, 1, 0, 0, 1, 0, 0, 0, 3, 0, 2, 0, 3, 2, 0, 1, 0, 0, 9, 0, 4, 0, 5]) (by kernel_rfl) ⟨⟨hS10.1.1, hS10.1.2.drew⟩, ⟨hS10.2.1.1, hS10.2.1.2.drew⟩, hS10.2.2⟩ (fun hHeld => ?_)
  refine wpAnyH_take (i := 0) (oi := ?_) (v := ?_) ?hiu1 (by as_aux_lemma => kernel_rfl) (by as_aux_lemma => kernel_rfl) (by as_aux_lemma => kernel_rfl) ?hQu1 (Or.inl ⟨?hwu1, ?hyu1⟩) hHeld ?restu1
  case hiu1 => simp only [List.getElem?_toArray, List.getElem?_cons_zero, List.getElem?_cons_succ]; rfl
  case hwu1 => rfl
  case hyu1 => (intro w9 hSw; (try dsimp only at hSw); go_simp; (try with_reducible rfl))
  case hQu1 => exact fun _ _ _ h => h
  (try simp only [Act.put, List.setIfInBounds_toArray, List.set_cons_zero, List.set_cons_succ])
  refine wpAnyH_take (i := 1) (oi := ?_) (v := ?_) ?hiu2 (by as_aux_lemma => kernel_rfl) (by as_aux_lemma => kernel_rfl) (by as_aux_lemma => kernel_rfl) ?hQu2 (Or.inl ⟨?hwu2, ?hyu2⟩) hHeld ?restu2
  case hiu2 => simp only [List.getElem?_toArray, List.getElem?_cons_zero, List.getElem?_cons_succ]; rfl
  case hwu2 => rfl
  case hyu2 => (intro w9 hSw; (try dsimp only at hSw); go_simp; (try with_reducible rfl))
  case hQu2 => exact fun _ _ _ h => h
  (try simp only [Act.put, List.setIfInBounds_toArray, List.set_cons_zero, List.set_cons_succ])
  refine wpAnyH_take (i := 2) (oi := ?_) (v := ?_) ?hiu3 (by as_aux_lemma => kernel_rfl) (by as_aux_lemma => kernel_rfl) (by as_aux_lemma => kernel_rfl) ?hQu3 (Or.inl ⟨?hwu3, ?hyu3⟩) hHeld ?restu3
  case hiu3 => simp only [List.getElem?_toArray, List.getElem?_cons_zero, List.getElem?_cons_succ]; rfl
  case hwu3 => rfl
  case hyu3 => (intro w9 hSw; (try dsimp only at hSw); go_simp; (try with_reducible rfl))
  case hQu3 => exact fun _ _ _ h => h
  (try simp only [Act.put, List.setIfInBounds_toArray, List.set_cons_zero, List.set_cons_succ])
  refine wpAnyH_take (i := 3) (oi := ?_) (v := ?_) ?hiu4 (by as_aux_lemma => kernel_rfl) (by as_aux_lemma => kernel_rfl) (by as_aux_lemma => kernel_rfl) ?hQu4 (Or.inl ⟨?hwu4, ?hyu4⟩) hHeld ?restu4
  case hiu4 => simp only [List.getElem?_toArray, List.getElem?_cons_zero, List.getElem?_cons_succ]; rfl
  case hwu4 => rfl
  case hyu4 => (intro w9 hSw; (try dsimp only at hSw); go_simp; (try with_reducible rfl))
  case hQu4 => exact fun _ _ _ h => h
  (try simp only [Act.put, List.setIfInBounds_toArray, List.set_cons_zero, List.set_cons_succ])
  refine wpAnyH_ready (rs := [4]) (by as_aux_lemma => kernel_rfl) (by simp) (AllReadyH.cons (o := ?_) ?hiu5 (fun K hK => ?_) AllReadyH.nil)
  case hiu5 => simp only [List.getElem?_toArray, List.getElem?_cons_zero, List.getElem?_cons_succ]; rfl
  go_simp
  refine hK.out _ _ ?_ (fun hHeld => ?_)
  · exact ⟨qr_below hS10.1 (bel1 _ _).drew, qr_below hS10.2.1 (bel1 _ _).drew, hS10.2.2.below (bel1 _ _).drew⟩
  clear hK K
  (try simp only [Act.put, List.setIfInBounds_toArray, List.set_cons_zero, List.set_cons_succ])
  refine wpAnyH_ready (rs := [5]) (by as_aux_lemma => kernel_rfl) (by simp) (AllReadyH.cons (o := ?_) ?hiu6 (fun K hK => ?_) AllReadyH.nil)
  case hiu6 => simp only [List.getElem?_toArray, List.getElem?_cons_zero, List.getElem?_cons_succ]; rfl
  rw [if_pos (by rfl)]
  go_wp2_with fail
  refine (same01_any _ _ _ _ [4, 0, 0, 0, 0, 0, 4, 2, 2, 1, 0, 0, 1, 0, 0, 0, 3, 0, 2, 0, 3, 2, 0, 1, 0, 0, 9, 0, 4, 0, 5] [4, 0, 0, 0, 0, 0, 4, 2, 2, 1, 0, 0, 1, 0, 0, 0, 3, 0, 2, 0, 3, 2, 0, 1, 0, 0, 9, 0, 4, 0, 5] _ hHeld.2.2 (show RdI (w10.alloc (.cells #[.int .u8 4, .int .u8 0, .int .u8 0, .int .u8 0, .int .u8 0, .int .u8 0, .int .u8 4, .int .u8 2, .int .u8 2, .int .u8 1, .int .u8 0, .int .u8 0, .int .u8 1, .int .u8 0, .int .u8 0, .int .u8 0, .int .u8 3, .int .u8 0, .int .u8 2, .int .u8 0, .int .u8 3, .int .u8 2, .int .u8 0, .int .u8 1, .int .u8 0, .int .u8 0, .int .u8 9, .int .u8 0, .int .u8 4, .int .u8 0, .int .u8 5] 5)) _ _ _ from RdI.lit' (l := [4, 0, 0, 0, 0, 0, 4, 2, 2, 1, 0, 0, 1, 0, 0, 0, 3, 0, 2, 0, 3, 2, 0, 1, 0, 0, 9, 0, 4, 0, 5]) rfl) (by decide) (by decide)).mono ?_
  rintro e w11 ⟨he, n11, hw11⟩
  rw [laid_e9] at he
  subst he
  have hb11 : Below w10.heap.size w10 w11 := by rw [hw11]; exact bN (bel1 _ _).drew n11
  clear hw11
  dsimp only
  refine hK.out _ _ ?_ (fun hHeld => ?_)
  · exact ⟨qr_below hS10.1 hb11, qr_below hS10.2.1 hb11, hS10.2.2.below hb11⟩
  clear hK K
  (try simp only [Act.put, List.setIfInBounds_toArray, List.set_cons_zero, List.set_cons_succ])
  refine wpAnyH_take (i := 6) (oi := ?_) (v := ?_) ?hiu7 (by as_aux_lemma => kernel_rfl) (by as_aux_lemma => kernel_rfl) (by as_aux_lemma => kernel_rfl) ?hQu7 (Or.inl ⟨?hwu7, ?hyu7⟩) hHeld ?restu7
  case hiu7 => simp only [List.getElem?_toArray, List.getElem?_cons_zero, List.getElem?_cons_succ]; rfl
  case hwu7 => rfl
  case hyu7 => (intro w9 hSw; (try dsimp only at hSw); go_simp; (try with_reducible rfl))
  case hQu7 => exact fun _ _ _ h => h
  (try simp only [Act.put, List.setIfInBounds_toArray, List.set_cons_zero, List.set_cons_succ])
  refine wpAnyH_take (i := 7) (oi := ?_) (v := ?_) ?hiu8 (by as_aux_lemma => kernel_rfl) (by as_aux_lemma => kernel_rfl) (by as_aux_lemma => kernel_rfl) ?hQu8 (Or.inl ⟨?hwu8, ?hyu8⟩) hHeld ?restu8
  case hiu8 => simp only [List.getElem?_toArray, List.getElem?_cons_zero, List.getElem?_cons_succ]; rfl
  case hwu8 => rfl
  case hyu8 => (intro w9 hSw; (try dsimp only at hSw); go_simp; (try with_reducible rfl))
  case hQu8 => exact fun _ _ _ h => h
  (try simp only [Act.put, List.setIfInBounds_toArray, List.set_cons_zero, List.set_cons_succ])
  refine wpAnyH_take (i := 8) (oi := ?_) (v := ?_) ?hiu9 (by as_aux_lemma => kernel_rfl) (by as_aux_lemma => kernel_rfl) (by as_aux_lemma => kernel_rfl) ?hQu9 (Or.inl ⟨?hwu9, ?hyu9⟩) hHeld ?restu9
  case hiu9 => simp only [List.getElem?_toArray, List.getElem?_cons_zero, List.getElem?_cons_succ]; rfl
  case hwu9 => rfl
  case hyu9 => (intro w9 hSw; (try dsimp only at hSw); go_simp; (try with_reducible rfl))
  case hQu9 => exact fun _ _ _ h => h
  (try simp only [Act.put, List.setIfInBounds_toArray, List.set_cons_zero, List.set_cons_succ])
  refine wpAnyH_take (i := 9) (oi := ?_) (v := ?_) ?hiu10 (by as_aux_lemma => kernel_rfl) (by as_aux_lemma => kernel_rfl) (by as_aux_lemma => kernel_rfl) ?hQu10 (Or.inl ⟨?hwu10, ?hyu10⟩) hHeld ?restu10
  case hiu10 => simp only [List.getElem?_toArray, List.getElem?_cons_zero, List.getElem?_cons_succ]; rfl
  case hwu10 => rfl
  case hyu10 => (intro w9 hSw; (try dsimp only at hSw); go_simp; (try with_reducible rfl))
  case hQu10 => exact fun _ _ _ h => h
  (try simp only [Act.put, List.setIfInBounds_toArray, List.set_cons_zero, List.set_cons_succ])
  refine wpAnyH_take (i := 10) (oi := ?_) (v := ?_) ?hiu11 (by as_aux_lemma => kernel_rfl) (by as_aux_lemma => kernel_rfl) (by as_aux_lemma => kernel_rfl) ?hQu11 (Or.inl ⟨?hwu11, ?hyu11⟩) hHeld ?restu11
  case hiu11 => simp only [List.getElem?_toArray, List.getElem?_cons_zero, List.getElem?_cons_succ]; rfl
  case hwu11 => rfl
  case hyu11 => (intro w9 hSw; (try dsimp only at hSw); go_simp; (try with_reducible rfl))
  case hQu11 => exact fun _ _ _ h => h
  (try simp only [Act.put, List.setIfInBounds_toArray, List.set_cons_zero, List.set_cons_succ])
  refine wpAnyH_take (i := 11) (oi := ?_) (v := ?_) ?hiu12 (by as_aux_lemma => kernel_rfl) (by as_aux_lemma => kernel_rfl) (by as_aux_lemma => kernel_rfl) ?hQu12 (Or.inl ⟨?hwu12, ?hyu12⟩) hHeld ?restu12
  case hiu12 => simp only [List.getElem?_toArray, List.getElem?_cons_zero, List.getElem?_cons_succ]; rfl
  case hwu12 => rfl
  case hyu12 => (intro w9 hSw; (try dsimp only at hSw); go_simp; (try with_reducible rfl))
  case hQu12 => exact fun _ _ _ h => h
  (try simp only [Act.put, List.setIfInBounds_toArray, List.set_cons_zero, List.set_cons_succ])
  refine wpAnyH_take (i := 12) (oi := ?_) (v := ?_) ?hiu13 (by as_aux_lemma => kernel_rfl) (by as_aux_lemma => kernel_rfl) (by as_aux_lemma => kernel_rfl) ?hQu13 (Or.inl ⟨?hwu13, ?hyu13⟩) hHeld ?restu13
  case hiu13 => simp only [List.getElem?_toArray, List.getElem?_cons_zero, List.getElem?_cons_succ]; rfl
  case hwu13 => rfl
  case hyu13 => (intro w9 hSw; (try dsimp only at hSw); go_simp; (try with_reducible rfl))
  case hQu13 => exact fun _ _ _ h => h
  (try simp only [Act.put, List.setIfInBounds_toArray, List.set_cons_zero, List.set_cons_succ])
  refine wpAnyH_take (i := 13) (oi := ?_) (v := ?_) ?hiu14 (by as_aux_lemma => kernel_rfl) (by as_aux_lemma => kernel_rfl) (by as_aux_lemma => kernel_rfl) ?hQu14 (Or.inl ⟨?hwu14, ?hyu14⟩) hHeld ?restu14
  case hiu14 => simp only [List.getElem?_toArray, List.getElem?_cons_zero, List.getElem?_cons_succ]; rfl
  case hwu14 => rfl
  case hyu14 => (intro w9 hSw; (try dsimp only at hSw); go_simp; (try with_reducible rfl))
  case hQu14 => exact fun _ _ _ h => h
  (try simp only [Act.put, List.setIfInBounds_toArray, List.set_cons_zero, List.set_cons_succ])
  refine wpAnyH_ready (rs := [14]) (by as_aux_lemma => kernel_rfl) (by simp) (AllReadyH.cons (o := ?_) ?hiu15 (fun K hK => ?_) AllReadyH.nil)
  case hiu15 => simp only [List.getElem?_toArray, List.getElem?_cons_zero, List.getElem?_cons_succ]; rfl
  rw [if_pos (by rfl)]
  go_wp2_with fail
  refine (plain_any _).mono ?_
  rintro e w12 ⟨rfl, hb12⟩
  dsimp only
  refine hK.out _ _ ?_ (fun hHeld => ?_)
  · exact ⟨qr_below hHeld.1 hb12, qr_below hHeld.2.1 hb12, hHeld.2.2.below hb12⟩
  clear hK K
  (try simp only [Act.put, List.setIfInBounds_toArray, List.set_cons_zero, List.set_cons_succ])
  refine wpAnyH_take (i := 15) (oi := ?_) (v := ?_) ?hiu16 (by as_aux_lemma => kernel_rfl) (by as_aux_lemma => kernel_rfl) (by as_aux_lemma => kernel_rfl) ?hQu16 (Or.inl ⟨?hwu16, ?hyu16⟩) hHeld ?restu16
  case hiu16 => simp only [List.getElem?_toArray, List.getElem?_cons_zero, List.getElem?_cons_succ]; rfl
  case hwu16 => rfl
  case hyu16 => (intro w9 hSw; (try dsimp only at hSw); go_simp; (try with_reducible rfl))
  case hQu16 => exact fun _ _ _ h => h
  (try simp only [Act.put, List.setIfInBounds_toArray, List.set_cons_zero, List.set_cons_succ])
  refine wpAnyH_take (i := 16) (oi := ?_) (v := ?_) ?hiu17 (by as_aux_lemma => kernel_rfl) (by as_aux_lemma => kernel_rfl) (by as_aux_lemma => kernel_rfl) ?hQu17 (Or.inl ⟨?hwu17, ?hyu17⟩) hHeld ?restu17
  case hiu17 => simp only [List.getElem?_toArray, List.getElem?_cons_zero, List.getElem?_cons_succ]; rfl
  case hwu17 => rfl
  case hyu17 => (intro w9 hSw; (try dsimp only at hSw); go_simp; (try with_reducible rfl))
  case hQu17 => exact fun _ _ _ h => h
  (try simp only [Act.put, List.setIfInBounds_toArray, List.set_cons_zero, List.set_cons_succ])
  refine wpAnyH_take (i := 17) (oi := ?_) (v := ?_) ?hiu18 (by as_aux_lemma => kernel_rfl) (by as_aux_lemma => kernel_rfl) (by as_aux_lemma => kernel_rfl) ?hQu18 (Or.inl ⟨?hwu18, ?hyu18⟩) hHeld ?restu18
  case hiu18 => simp only [List.getElem?_toArray, List.getElem?_cons_zero, List.getElem?_cons_succ]; rfl
  case hwu18 => rfl
  case hyu18 => (intro w9 hSw; (try dsimp only at hSw); go_simp; (try with_reducible rfl))
  case hQu18 => exact fun _ _ _ h => h
  (try simp only [Act.put, List.setIfInBounds_toArray, List.set_cons_zero, List.set_cons_succ])
  refine wpAnyH_take (i := 18) (oi := ?_) (v := ?_) ?hiu19 (by as_aux_lemma => kernel_rfl) (by as_aux_lemma => kernel_rfl) (by as_aux_lemma => kernel_rfl) ?hQu19 (Or.inl ⟨?hwu19, ?hyu19⟩) hHeld ?restu19
  case hiu19 => simp only [List.getElem?_toArray, List.getElem?_cons_zero, List.getElem?_cons_succ]; rfl
  case hwu19 => rfl
  case hyu19 => (intro w9 hSw; (try dsimp only at hSw); go_simp; (try with_reducible rfl))
  case hQu19 => exact fun _ _ _ h => h
  (try simp only [Act.put, List.setIfInBounds_toArray, List.set_cons_zero, List.set_cons_succ])
  refine wpAnyH_take (i := 19) (oi := ?_) (v := ?_) ?hiu20 (by as_aux_lemma => kernel_rfl) (by as_aux_lemma => kernel_rfl) (by as_aux_lemma => kernel_rfl) ?hQu20 (Or.inl ⟨?hwu20, ?hyu20⟩) hHeld ?restu20
  case hiu20 => simp only [List.getElem?_toArray, List.getElem?_cons_zero, List.getElem?_cons_succ]; rfl
  case hwu20 => rfl
  case hyu20 => (intro w9 hSw; (try dsimp only at hSw); go_simp; (try with_reducible rfl))
  case hQu20 => exact fun _ _ _ h => h
  (try simp only [Act.put, List.setIfInBounds_toArray, List.set_cons_zero, List.set_cons_succ])
  refine wpAnyH_take (i := 20) (oi := ?_) (v := ?_) ?hiu21 (by as_aux_lemma => kernel_rfl) (by as_aux_lemma => kernel_rfl) (by as_aux_lemma => kernel_rfl) ?hQu21 (Or.inl ⟨?hwu21, ?hyu21⟩) hHeld ?restu21
  case hiu21 => simp only [List.getElem?_toArray, List.getElem?_cons_zero, List.getElem?_cons_succ]; rfl
  case hwu21 => rfl
  case hyu21 => (intro w9 hSw; (try dsimp only at hSw); go_simp; (try with_reducible rfl))
  case hQu21 => exact fun _ _ _ h => h
  (try simp only [Act.put, List.setIfInBounds_toArray, List.set_cons_zero, List.set_cons_succ])
  refine wpAnyH_take (i := 21) (oi := ?_) (v := ?_) ?hiu22 (by as_aux_lemma => kernel_rfl) (by as_aux_lemma => kernel_rfl) (by as_aux_lemma => kernel_rfl) ?hQu22 (Or.inl ⟨?hwu22, ?hyu22⟩) hHeld ?restu22
  case hiu22 => simp only [List.getElem?_toArray, List.getElem?_cons_zero, List.getElem?_cons_succ]; rfl
  case hwu22 => rfl
  case hyu22 => (intro w9 hSw; (try dsimp only at hSw); go_simp; (try with_reducible rfl))
  case hQu22 => exact fun _ _ _ h => h
  (try simp only [Act.put, List.setIfInBounds_toArray, List.set_cons_zero, List.set_cons_succ])
  refine wpAnyH_take (i := 22) (oi := ?_) (v := ?_) ?hiu23 (by as_aux_lemma => kernel_rfl) (by as_aux_lemma => kernel_rfl) (by as_aux_lemma => kernel_rfl) ?hQu23 (Or.inl ⟨?hwu23, ?hyu23⟩) hHeld ?restu23
  case hiu23 => simp only [List.getElem?_toArray, List.getElem?_cons_zero, List.getElem?_cons_succ]; rfl
  case hwu23 => rfl
  case hyu23 => (intro w9 hSw; (try dsimp only at hSw); go_simp; (try with_reducible rfl))
  case hQu23 => exact fun _ _ _ h => h
  (try simp only [Act.put, List.setIfInBounds_toArray, List.set_cons_zero, List.set_cons_succ])
  refine wpAnyH_take (i := 23) (oi := ?_) (v := ?_) ?hiu24 (by as_aux_lemma => kernel_rfl) (by as_aux_lemma => kernel_rfl) (by as_aux_lemma => kernel_rfl) ?hQu24 (Or.inl ⟨?hwu24, ?hyu24⟩) hHeld ?restu24
  case hiu24 => simp only [List.getElem?_toArray, List.getElem?_cons_zero, List.getElem?_cons_succ]; rfl
  case hwu24 => rfl
  case hyu24 => (intro w9 hSw; (try dsimp only at hSw); go_simp; (try with_reducible rfl))
  case hQu24 => exact fun _ _ _ h => h
  (try simp only [Act.put, List.setIfInBounds_toArray, List.set_cons_zero, List.set_cons_succ])
  refine wpAnyH_take (i := 24) (oi := ?_) (v := ?_) ?hiu25 (by as_aux_lemma => kernel_rfl) (by as_aux_lemma => kernel_rfl) (by as_aux_lemma => kernel_rfl) ?hQu25 (Or.inl ⟨?hwu25, ?hyu25⟩) hHeld ?restu25
  case hiu25 => simp only [List.getElem?_toArray, List.getElem?_cons_zero, List.getElem?_cons_succ]; rfl
  case hwu25 => rfl
  case hyu25 => (intro w9 hSw; (try dsimp only at hSw); go_simp; (try with_reducible rfl))
  case hQu25 => exact fun _ _ _ h => h
  (try simp only [Act.put, List.setIfInBounds_toArray, List.set_cons_zero, List.set_cons_succ])
  refine wpAnyH_take (i := 25) (oi := ?_) (v := ?_) ?hiu26 (by as_aux_lemma => kernel_rfl) (by as_aux_lemma => kernel_rfl) (by as_aux_lemma => kernel_rfl) ?hQu26 (Or.inl ⟨?hwu26, ?hyu26⟩) hHeld ?restu26
  case hiu26 => simp only [List.getElem?_toArray, List.getElem?_cons_zero, List.getElem?_cons_succ]; rfl
  case hwu26 => rfl
  case hyu26 => (intro w9 hSw; (try dsimp only at hSw); go_simp; (try with_reducible rfl))
  case hQu26 => exact fun _ _ _ h => h
  (try simp only [Act.put, List.setIfInBounds_toArray, List.set_cons_zero, List.set_cons_succ])
  refine wpAnyH_take (i := 26) (oi := ?_) (v := ?_) ?hiu27 (by as_aux_lemma => kernel_rfl) (by as_aux_lemma => kernel_rfl) (by as_aux_lemma => kernel_rfl) ?hQu27 (Or.inl ⟨?hwu27, ?hyu27⟩) hHeld ?restu27
  case hiu27 => simp only [List.getElem?_toArray, List.getElem?_cons_zero, List.getElem?_cons_succ]; rfl
  case hwu27 => rfl
  case hyu27 => (intro w9 hSw; (try dsimp only at hSw); go_simp; (try with_reducible rfl))
  case hQu27 => exact fun _ _ _ h => h
  (try simp only [Act.put, List.setIfInBounds_toArray, List.set_cons_zero, List.set_cons_succ])
  refine wpAnyH_take (i := 27) (oi := ?_) (v := ?_) ?hiu28 (by as_aux_lemma => kernel_rfl) (by as_aux_lemma => kernel_rfl) (by as_aux_lemma => kernel_rfl) ?hQu28 (Or.inl ⟨?hwu28, ?hyu28⟩) hHeld ?restu28
  case hiu28 => simp only [List.getElem?_toArray, List.getElem?_cons_zero, List.getElem?_cons_succ]; rfl
  case hwu28 => rfl
  case hyu28 => (intro w9 hSw; (try dsimp only at hSw); go_simp; (try with_reducible rfl))
  case hQu28 => exact fun _ _ _ h => h
  (try simp only [Act.put, List.setIfInBounds_toArray, List.set_cons_zero, List.set_cons_succ])
  refine wpAnyH_take (i := 28) (oi := ?_) (v := ?_) ?hiu29 (by as_aux_lemma => kernel_rfl) (by as_aux_lemma => kernel_rfl) (by as_aux_lemma => kernel_rfl) ?hQu29 (Or.inl ⟨?hwu29, ?hyu29⟩) hHeld ?restu29
  case hiu29 => simp only [List.getElem?_toArray, List.getElem?_cons_zero, List.getElem?_cons_succ]; rfl
  case hwu29 => rfl
  case hyu29 => (intro w9 hSw; (try dsimp only at hSw); go_simp; (try with_reducible rfl))
  case hQu29 => exact fun _ _ _ h => h
  (try simp only [Act.put, List.setIfInBounds_toArray, List.set_cons_zero, List.set_cons_succ])
  refine wpAnyH_take (i := 29) (oi := ?_) (v := ?_) ?hiu30 (by as_aux_lemma => kernel_rfl) (by as_aux_lemma => kernel_rfl) (by as_aux_lemma => kernel_rfl) ?hQu30 (Or.inl ⟨?hwu30, ?hyu30⟩) hHeld ?restu30
  case hiu30 => simp only [List.getElem?_toArray, List.getElem?_cons_zero, List.getElem?_cons_succ]; rfl
  case hwu30 => rfl
  case hyu30 => (intro w9 hSw; (try dsimp only at hSw); go_simp; (try with_reducible rfl))
  case hQu30 => exact fun _ _ _ h => h
  (try simp only [Act.put, List.setIfInBounds_toArray, List.set_cons_zero, List.set_cons_succ])
  refine wpAnyH_take (i := 30) (oi := ?_) (v := ?_) ?hiu31 (by as_aux_lemma => kernel_rfl) (by as_aux_lemma => kernel_rfl) (by as_aux_lemma => kernel_rfl) ?hQu31 (Or.inl ⟨?hwu31, ?hyu31⟩) hHeld ?restu31
  case hiu31 => simp only [List.getElem?_toArray, List.getElem?_cons_zero, List.getElem?_cons_succ]; rfl
  case hwu31 => rfl
  case hyu31 => (intro w9 hSw; (try dsimp only at hSw); go_simp; (try with_reducible rfl))
  case hQu31 => exact fun _ _ _ h => h
  (try simp only [Act.put, List.setIfInBounds_toArray, List.set_cons_zero, List.set_cons_succ])
  refine wpAnyH_take (i := 31) (oi := ?_) (v := ?_) ?hiu32 (by as_aux_lemma => kernel_rfl) (by as_aux_lemma => kernel_rfl) (by as_aux_lemma => kernel_rfl) ?hQu32 (Or.inl ⟨?hwu32, ?hyu32⟩) hHeld ?restu32
  case hiu32 => simp only [List.getElem?_toArray, List.getElem?_cons_zero, List.getElem?_cons_succ]; rfl
  case hwu32 => rfl
  case hyu32 => (intro w9 hSw; (try dsimp only at hSw); go_simp; (try with_reducible rfl))
  case hQu32 => exact fun _ _ _ h => h
  (try simp only [Act.put, List.setIfInBounds_toArray, List.set_cons_zero, List.set_cons_succ])
  refine wpAnyH_take (i := 32) (oi := ?_) (v := ?_) ?hiu33 (by as_aux_lemma => kernel_rfl) (by as_aux_lemma => kernel_rfl) (by as_aux_lemma => kernel_rfl) ?hQu33 (Or.inl ⟨?hwu33, ?hyu33⟩) hHeld ?restu33
  case hiu33 => simp only [List.getElem?_toArray, List.getElem?_cons_zero, List.getElem?_cons_succ]; rfl
  case hwu33 => rfl
  case hyu33 => (intro w9 hSw; (try dsimp only at hSw); go_simp; (try with_reducible rfl))
  case hQu33 => exact fun _ _ _ h => h
  (try simp only [Act.put, List.setIfInBounds_toArray, List.set_cons_zero, List.set_cons_succ])
  refine wpAnyH_take (i := 33) (oi := ?_) (v := ?_) ?hiu34 (by as_aux_lemma => kernel_rfl) (by as_aux_lemma => kernel_rfl) (by as_aux_lemma => kernel_rfl) ?hQu34 (Or.inl ⟨?hwu34, ?hyu34⟩) hHeld ?restu34
  case hiu34 => simp only [List.getElem?_toArray, List.getElem?_cons_zero, List.getElem?_cons_succ]; rfl
  case hwu34 => rfl
  case hyu34 => (intro w9 hSw; (try dsimp only at hSw); go_simp; (try with_reducible rfl))
  case hQu34 => exact fun _ _ _ h => h
  (try simp only [Act.put, List.setIfInBounds_toArray, List.set_cons_zero, List.set_cons_succ])
  refine wpAnyH_take (i := 34) (oi := ?_) (v := ?_) ?hiu35 (by as_aux_lemma => kernel_rfl) (by as_aux_lemma => kernel_rfl) (by as_aux_lemma => kernel_rfl) ?hQu35 (Or.inl ⟨?hwu35, ?hyu35⟩) hHeld ?restu35
  case hiu35 => simp only [List.getElem?_toArray, List.getElem?_cons_zero, List.getElem?_cons_succ]; rfl
  case hwu35 => rfl
  case hyu35 => (intro w9 hSw; (try dsimp only at hSw); go_simp; (try with_reducible rfl))
  case hQu35 => exact fun _ _ _ h => h
  (try simp only [Act.put, List.setIfInBounds_toArray, List.set_cons_zero, List.set_cons_succ])
  refine wpAnyH_take (i := 35) (oi := ?_) (v := ?_) ?hiu36 (by as_aux_lemma => kernel_rfl) (by as_aux_lemma => kernel_rfl) (by as_aux_lemma => kernel_rfl) ?hQu36 (Or.inl ⟨?hwu36, ?hyu36⟩) hHeld ?restu36
  case hiu36 => simp only [List.getElem?_toArray, List.getElem?_cons_zero, List.getElem?_cons_succ]; rfl
  case hwu36 => rfl
  case hyu36 => (intro w9 hSw; (try dsimp only at hSw); go_simp; (try with_reducible rfl))
  case hQu36 => exact fun _ _ _ h => h
  (try simp only [Act.put, List.setIfInBounds_toArray, List.set_cons_zero, List.set_cons_succ])
  refine wpAnyH_take (i := 36) (oi := ?_) (v := ?_) ?hiu37 (by as_aux_lemma => kernel_rfl) (by as_aux_lemma => kernel_rfl) (by as_aux_lemma => kernel_rfl) ?hQu37 (Or.inl ⟨?hwu37, ?hyu37⟩) hHeld ?restu37
  case hiu37 => simp only [List.getElem?_toArray, List.getElem?_cons_zero, List.getElem?_cons_succ]; rfl
  case hwu37 => rfl
  case hyu37 => (intro w9 hSw; (try dsimp only at hSw); go_simp; (try with_reducible rfl))
  case hQu37 => exact fun _ _ _ h => h
  (try simp only [Act.put, List.setIfInBounds_toArray, List.set_cons_zero, List.set_cons_succ])
  refine wpAnyH_take (i := 37) (oi := ?_) (v := ?_) ?hiu38 (by as_aux_lemma => kernel_rfl) (by as_aux_lemma => kernel_rfl) (by as_aux_lemma => kernel_rfl) ?hQu38 (Or.inl ⟨?hwu38, ?hyu38⟩) hHeld ?restu38
  case hiu38 => simp only [List.getElem?_toArray, List.getElem?_cons_zero, List.getElem?_cons_succ]; rfl
  case hwu38 => rfl
  case hyu38 => (intro w9 hSw; (try dsimp only at hSw); go_simp; (try with_reducible rfl))
  case hQu38 => exact fun _ _ _ h => h
  (try simp only [Act.put, List.setIfInBounds_toArray, List.set_cons_zero, List.set_cons_succ])
  refine wpAnyH_take (i := 38) (oi := ?_) (v := ?_) ?hiu39 (by as_aux_lemma => kernel_rfl) (by as_aux_lemma => kernel_rfl) (by as_aux_lemma => kernel_rfl) ?hQu39 (Or.inl ⟨?hwu39, ?hyu39⟩) hHeld ?restu39
  case hiu39 => simp only [List.getElem?_toArray, List.getElem?_cons_zero, List.getElem?_cons_succ]; rfl
  case hwu39 => rfl
  case hyu39 => (intro w9 hSw; (try dsimp only at hSw); go_simp; (try with_reducible rfl))
  case hQu39 => exact fun _ _ _ h => h
  (try simp only [Act.put, List.setIfInBounds_toArray, List.set_cons_zero, List.set_cons_succ])
  refine wpAnyH_take (i := 39) (oi := ?_) (v := ?_) ?hiu40 (by as_aux_lemma => kernel_rfl) (by as_aux_lemma => kernel_rfl) (by as_aux_lemma => kernel_rfl) ?hQu40 (Or.inl ⟨?hwu40, ?hyu40⟩) hHeld ?restu40
  case hiu40 => simp only [List.getElem?_toArray, List.getElem?_cons_zero, List.getElem?_cons_succ]; rfl
  case hwu40 => rfl
  case hyu40 => (intro w9 hSw; (try dsimp only at hSw); go_simp; (try with_reducible rfl))
  case hQu40 => exact fun _ _ _ h => h
  (try simp only [Act.put, List.setIfInBounds_toArray, List.set_cons_zero, List.set_cons_succ])
  refine wpAnyH_take (i := 40) (oi := ?_) (v := ?_) ?hiu41 (by as_aux_lemma => kernel_rfl) (by as_aux_lemma => kernel_rfl) (by as_aux_lemma => kernel_rfl) ?hQu41 (Or.inl ⟨?hwu41, ?hyu41⟩) hHeld ?restu41
  case hiu41 => simp only [List.getElem?_toArray, List.getElem?_cons_zero, List.getElem?_cons_succ]; rfl
  case hwu41 => rfl
  case hyu41 => (intro w9 hSw; (try dsimp only at hSw); go_simp; (try with_reducible rfl))
  case hQu41 => exact fun _ _ _ h => h
  (try simp only [Act.put, List.setIfInBounds_toArray, List.set_cons_zero, List.set_cons_succ])
  refine wpAnyH_take (i := 41) (oi := ?_) (v := ?_) ?hiu42 (by as_aux_lemma => kernel_rfl) (by as_aux_lemma => kernel_rfl) (by as_aux_lemma => kernel_rfl) ?hQu42 (Or.inl ⟨?hwu42, ?hyu42⟩) hHeld ?restu42
  case hiu42 => simp only [List.getElem?_toArray, List.getElem?_cons_zero, List.getElem?_cons_succ]; rfl
  case hwu42 => rfl
  case hyu42 => (intro w9 hSw; (try dsimp only at hSw); go_simp; (try with_reducible rfl))
  case hQu42 => exact fun _ _ _ h => h
  (try simp only [Act.put, List.setIfInBounds_toArray, List.set_cons_zero, List.set_cons_succ])
  refine wpAnyH_take (i := 42) (oi := ?_) (v := ?_) ?hiu43 (by as_aux_lemma => kernel_rfl) (by as_aux_lemma => kernel_rfl) (by as_aux_lemma => kernel_rfl) ?hQu43 (Or.inl ⟨?hwu43, ?hyu43⟩) hHeld ?restu43
  case hiu43 => simp only [List.getElem?_toArray, List.getElem?_cons_zero, List.getElem?_cons_succ]; rfl
  case hwu43 => rfl
  case hyu43 => (intro w9 hSw; (try dsimp only at hSw); go_simp; (try with_reducible rfl))
  case hQu43 => exact fun _ _ _ h => h
  (try simp only [Act.put, List.setIfInBounds_toArray, List.set_cons_zero, List.set_cons_succ])
  refine wpAnyH_take (i := 43) (oi := ?_) (v := ?_) ?hiu44 (by as_aux_lemma => kernel_rfl) (by as_aux_lemma => kernel_rfl) (by as_aux_lemma => kernel_rfl) ?hQu44 (Or.inl ⟨?hwu44, ?hyu44⟩) hHeld ?restu44
  case hiu44 => simp only [List.getElem?_toArray, List.getElem?_cons_zero, List.getElem?_cons_succ]; rfl
  case hwu44 => rfl
  case hyu44 => (intro w9 hSw; (try dsimp only at hSw); go_simp; (try with_reducible rfl))
  case hQu44 => exact fun _ _ _ h => h
  (try simp only [Act.put, List.setIfInBounds_toArray, List.set_cons_zero, List.set_cons_succ])
  refine wpAnyH_take (i := 44) (oi := ?_) (v := ?_) ?hiu45 (by as_aux_lemma => kernel_rfl) (by as_aux_lemma => kernel_rfl) (by as_aux_lemma => kernel_rfl) ?hQu45 (Or.inl ⟨?hwu45, ?hyu45⟩) hHeld ?restu45
  case hiu45 => simp only [List.getElem?_toArray, List.getElem?_cons_zero, List.getElem?_cons_succ]; rfl
  case hwu45 => rfl
  case hyu45 => (intro w9 hSw; (try dsimp only at hSw); go_simp; (try with_reducible rfl))
  case hQu45 => exact fun _ _ _ h => h
  (try simp only [Act.put, List.setIfInBounds_toArray, List.set_cons_zero, List.set_cons_succ])
  refine wpAnyH_take (i := 45) (oi := ?_) (v := ?_) ?hiu46 (by as_aux_lemma => kernel_rfl) (by as_aux_lemma => kernel_rfl) (by as_aux_lemma => kernel_rfl) ?hQu46 (Or.inl ⟨?hwu46, ?hyu46⟩) hHeld ?restu46
  case hiu46 => simp only [List.getElem?_toArray, List.getElem?_cons_zero, List.getElem?_cons_succ]; rfl
  case hwu46 => rfl
  case hyu46 => (intro w9 hSw; (try dsimp only at hSw); go_simp; (try with_reducible rfl))
  case hQu46 => exact fun _ _ _ h => h
  (try simp only [Act.put, List.setIfInBounds_toArray, List.set_cons_zero, List.set_cons_succ])
  refine wpAnyH_take (i := 46) (oi := ?_) (v := ?_) ?hiu47 (by as_aux_lemma => kernel_rfl) (by as_aux_lemma => kernel_rfl) (by as_aux_lemma => kernel_rfl) ?hQu47 (Or.inl ⟨?hwu47, ?hyu47⟩) hHeld ?restu47
  case hiu47 => simp only [List.getElem?_toArray, List.getElem?_cons_zero, List.getElem?_cons_succ]; rfl
  case hwu47 => rfl
  case hyu47 => (intro w9 hSw; (try dsimp only at hSw); go_simp; (try with_reducible rfl))
  case hQu47 => exact fun _ _ _ h => h
  (try simp only [Act.put, List.setIfInBounds_toArray, List.set_cons_zero, List.set_cons_succ])
  refine wpAnyH_ready (rs := [47]) (by as_aux_lemma => kernel_rfl) (by simp) (AllReadyH.cons (o := ?_) ?hiu48 (fun K hK => ?_) AllReadyH.nil)
  case hiu48 => simp only [List.getElem?_toArray, List.getElem?_cons_zero, List.getElem?_cons_succ]; rfl
  rw [if_pos (by rfl)]
  go_wp2_with fail
  refine (suits_any 42 4 3 20 2 1 1 100 30 10 2 10 40 _).mono ?_
  rintro e w13 ⟨he, hb13⟩
  rw [laid_e10] at he
  subst he
  dsimp only
  refine hK.out _ _ ?_ (fun hHeld => ?_)
  · exact ⟨qr_below hHeld.1 hb13, qr_below hHeld.2.1 hb13, hHeld.2.2.below hb13⟩
  clear hK K
  (try simp only [Act.put, List.setIfInBounds_toArray, List.set_cons_zero, List.set_cons_succ])
  refine wpAnyH_take (i := 48) (oi := ?_) (v := ?_) ?hiu49 (by as_aux_lemma => kernel_rfl) (by as_aux_lemma => kernel_rfl) (by as_aux_lemma => kernel_rfl) ?hQu49 (Or.inl ⟨?hwu49, ?hyu49⟩) hHeld ?restu49
  case hiu49 => simp only [List.getElem?_toArray, List.getElem?_cons_zero, List.getElem?_cons_succ]; rfl
  case hwu49 => rfl
  case hyu49 => (intro w9 hSw; (try dsimp only at hSw); go_simp; (try with_reducible rfl))
  case hQu49 => exact fun _ _ _ h => h
  (try simp only [Act.put, List.setIfInBounds_toArray, List.set_cons_zero, List.set_cons_succ])
  refine wpAnyH_take (i := 49) (oi := ?_) (v := ?_) ?hiu50 (by as_aux_lemma => kernel_rfl) (by as_aux_lemma => kernel_rfl) (by as_aux_lemma => kernel_rfl) ?hQu50 (Or.inl ⟨?hwu50, ?hyu50⟩) hHeld ?restu50
  case hiu50 => simp only [List.getElem?_toArray, List.getElem?_cons_zero, List.getElem?_cons_succ]; rfl
  case hwu50 => rfl
  case hyu50 => (intro w9 hSw; (try dsimp only at hSw); go_simp; (try with_reducible rfl))
  case hQu50 => exact fun _ _ _ h => h
  (try simp only [Act.put, List.setIfInBounds_toArray, List.set_cons_zero, List.set_cons_succ])
  refine wpAnyH_take (i := 50) (oi := ?_) (v := ?_) ?hiu51 (by as_aux_lemma => kernel_rfl) (by as_aux_lemma => kernel_rfl) (by as_aux_lemma => kernel_rfl) ?hQu51 (Or.inl ⟨?hwu51, ?hyu51⟩) hHeld ?restu51
  case hiu51 => simp only [List.getElem?_toArray, List.getElem?_cons_zero, List.getElem?_cons_succ]; rfl
  case hwu51 => rfl
  case hyu51 => (intro w9 hSw; (try dsimp only at hSw); go_simp; (try with_reducible rfl))
  case hQu51 => exact fun _ _ _ h => h
  (try simp only [Act.put, List.setIfInBounds_toArray, List.set_cons_zero, List.set_cons_succ])
  refine wpAnyH_take (i := 51) (oi := ?_) (v := ?_) ?hiu52 (by as_aux_lemma => kernel_rfl) (by as_aux_lemma => kernel_rfl) (by as_aux_lemma => kernel_rfl) ?hQu52 (Or.inl ⟨?hwu52, ?hyu52⟩) hHeld ?restu52
  case hiu52 => simp only [List.getElem?_toArray, List.getElem?_cons_zero, List.getElem?_cons_succ]; rfl
  case hwu52 => rfl
  case hyu52 => (intro w9 hSw; (try dsimp only at hSw); go_simp; (try with_reducible rfl))
  case hQu52 => exact fun _ _ _ h => h
  (try simp only [Act.put, List.setIfInBounds_toArray, List.set_cons_zero, List.set_cons_succ])
  refine wpAnyH_take (i := 52) (oi := ?_) (v := ?_) ?hiu53 (by as_aux_lemma => kernel_rfl) (by as_aux_lemma => kernel_rfl) (by as_aux_lemma => kernel_rfl) ?hQu53 (Or.inl ⟨?hwu53, ?hyu53⟩) hHeld ?restu53
  case hiu53 => simp only [List.getElem?_toArray, List.getElem?_cons_zero, List.getElem?_cons_succ]; rfl
  case hwu53 => rfl
  case hyu53 => (intro w9 hSw; (try dsimp only at hSw); go_simp; (try with_reducible rfl))
  case hQu53 => exact fun _ _ _ h => h
  (try simp only [Act.put, List.setIfInBounds_toArray, List.set_cons_zero, List.set_cons_succ])
  refine wpAnyH_take (i := 53) (oi := ?_) (v := ?_) ?hiu54 (by as_aux_lemma => kernel_rfl) (by as_aux_lemma => kernel_rfl) (by as_aux_lemma => kernel_rfl) ?hQu54 (Or.inl ⟨?hwu54, ?hyu54⟩) hHeld ?restu54
  case hiu54 => simp only [List.getElem?_toArray, List.getElem?_cons_zero, List.getElem?_cons_succ]; rfl
  case hwu54 => rfl
  case hyu54 => (intro w9 hSw; (try dsimp only at hSw); go_simp; (try with_reducible rfl))
  case hQu54 => exact fun _ _ _ h => h
  (try simp only [Act.put, List.setIfInBounds_toArray, List.set_cons_zero, List.set_cons_succ])
  refine wpAnyH_ready (rs := [54]) (by as_aux_lemma => kernel_rfl) (by simp) (AllReadyH.cons (o := ?_) ?hiu55 (fun K hK => ?_) AllReadyH.nil)
  case hiu55 => simp only [List.getElem?_toArray, List.getElem?_cons_zero, List.getElem?_cons_succ]; rfl
  rw [if_pos (by rfl)]
  go_wp2_with fail
  refine (suits_any 42 4 3 20 2 1 1 100 30 10 2 11 4 _).mono ?_
  rintro e w14 ⟨he, hb14⟩
  rw [laid_e11] at he
  subst he
  dsimp only
  refine hK.out _ _ ?_ (fun hHeld => ?_)
  · exact ⟨qr_below hHeld.1 hb14, qr_below hHeld.2.1 hb14, hHeld.2.2.below hb14⟩
  clear hK K
  (try simp only [Act.put, List.setIfInBounds_toArray, List.set_cons_zero, List.set_cons_succ])
  refine wpAnyH_take (i := 55) (oi := ?_) (v := ?_) ?hiu56 (by as_aux_lemma => kernel_rfl) (by as_aux_lemma => kernel_rfl) (by as_aux_lemma => kernel_rfl) ?hQu56 (Or.inl ⟨?hwu56, ?hyu56⟩) hHeld ?restu56
  case hiu56 => simp only [List.getElem?_toArray, List.getElem?_cons_zero, List.getElem?_cons_succ]; rfl
  case hwu56 => rfl
  case hyu56 => (intro w9 hSw; (try dsimp only at hSw); go_simp; (try with_reducible rfl))
  case hQu56 => exact fun _ _ _ h => h
  (try simp only [Act.put, List.setIfInBounds_toArray, List.set_cons_zero, List.set_cons_succ])
  refine wpAnyH_take (i := 56) (oi := ?_) (v := ?_) ?hiu57 (by as_aux_lemma => kernel_rfl) (by as_aux_lemma => kernel_rfl) (by as_aux_lemma => kernel_rfl) ?hQu57 (Or.inl ⟨?hwu57, ?hyu57⟩) hHeld ?restu57
  case hiu57 => simp only [List.getElem?_toArray, List.getElem?_cons_zero, List.getElem?_cons_succ]; rfl
  case hwu57 => rfl
  case hyu57 => (intro w9 hSw; (try dsimp only at hSw); go_simp; (try with_reducible rfl))
  case hQu57 => exact fun _ _ _ h => h
  (try simp only [Act.put, List.setIfInBounds_toArray, List.set_cons_zero, List.set_cons_succ])
  refine wpAnyH_take (i := 57) (oi := ?_) (v := ?_) ?hiu58 (by as_aux_lemma => kernel_rfl) (by as_aux_lemma => kernel_rfl) (by as_aux_lemma => kernel_rfl) ?hQu58 (Or.inl ⟨?hwu58, ?hyu58⟩) hHeld ?restu58
  case hiu58 => simp only [List.getElem?_toArray, List.getElem?_cons_zero, List.getElem?_cons_succ]; rfl
  case hwu58 => rfl
  case hyu58 => (intro w9 hSw; (try dsimp only at hSw); go_simp; (try with_reducible rfl))
  case hQu58 => exact fun _ _ _ h => h
  (try simp only [Act.put, List.setIfInBounds_toArray, List.set_cons_zero, List.set_cons_succ])
  refine wpAnyH_done (by kernel_rfl) ?_ _
  have HBE := Lib.hid (bT HB10.out hHeld.1.2)
  clear hHeld
  go_wp2
  go_ret
  exact ⟨rfl, HBE.out⟩
end Go.Proofs.Ythejnlelegcgfaa
