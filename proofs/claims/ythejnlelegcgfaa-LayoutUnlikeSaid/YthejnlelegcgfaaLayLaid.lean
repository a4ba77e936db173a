/- Layer 13's example: laid returns true. No condition. -/
import Derived.Test.YthejnlelegcgfaaLayGetRef
import Derived.Test.YthejnlelegcgfaaLayPutRef
import Derived.Test.YthejnlelegcgfaaSame
namespace Go.Proofs.Ythejnlelegcgfaa
open Go.RowKit
set_option linter.unusedVariables false
set_option linter.unusedSimpArgs false

theorem laid_e1 : layR (tkB 42 4 3 20 2 1 0 100 30 10 2) [42, 4, 3, 20, 2, 1, 0, 100, 30, 10, 2, 5, 9, 4, 0] = ([4, 0, 0, 0, 0, 0, 4, 2, 2, 1, 0, 0, 1, 0, 0, 0, 3, 0, 2, 0, 3, 2, 0, 1, 0, 0, 9, 0, 4, 0, 5], 0) := by decide +kernel
theorem laid_e2 : layG [4, 0, 0, 0, 0, 0, 4, 2, 2, 1, 0, 0, 1, 0, 0, 0, 3, 0, 2, 0, 3, 2, 0, 1, 0, 0, 9, 0, 4, 0, 5] = ([42, 4, 3, 20, 2, 1, 0, 100, 30, 10, 2, 5, 9, 4, 0], 0) := by decide +kernel
theorem laid_e3 : layR (tkB 42 4 3 20 2 1 1 100 30 10 2) [42, 4, 3, 20, 2, 1, 1, 100, 30, 10, 2, 5, 9, 4, 0] = ([], 18) := by decide +kernel
theorem laid_e4 : layR (tkB 42 4 3 20 2 1 1 100 30 10 2) [42, 4, 3, 20, 2, 1, 1, 100, 30, 10, 2, 5, 11, 4, 0] = ([], 1) := by decide +kernel
theorem laid_e5 : layG [5, 1] = ([0, 0, 0, 0, 0, 0, 0, 0, 0, 0, 0, 0, 0, 0, 0], 8) := by decide +kernel
theorem laid_e6 : layG [1, 1] = ([0, 0, 0, 0, 0, 0, 0, 0, 0, 0, 0, 0, 0, 0, 0], 14) := by decide +kernel

theorem laid_e7 : wsL 3 = [1, 7, 1, 1, 5, 3, 1, 1, 1, 2, 2, 2] := by decide +kernel
theorem laid_e8 : wsE 3 = 0 := by decide +kernel
theorem laid_e9 : ([4, 0, 0, 0, 0, 0, 4, 2, 2, 1, 0, 0, 1, 0, 0, 0, 3, 0, 2, 0, 3, 2, 0, 1, 0, 0, 9, 0, 4, 0, 5] == ([4, 0, 0, 0, 0, 0, 4, 2, 2, 1, 0, 0, 1, 0, 0, 0, 3, 0, 2, 0, 3, 2, 0, 1, 0, 0, 9, 0, 4, 0, 5] : List Int)) = true := by decide +kernel
theorem laid_e10 : suB 10 10 40 = true := by decide +kernel
theorem laid_e11 : suB 10 11 4 = false := by decide +kernel
theorem RdI.setCell {W : World} {k : IntKind} {A : Option Addr} {l : List Int} {b o : Nat} {v : Value} (h : RdI W k A l) (hne : ∀ ad, A = some ad → ad.block ≠ b) : RdI (W.setCell ⟨b, o, none⟩ v) k A l := by
  rcases h with h | ⟨ad, rfl, hlt, hc⟩
  · exact .inl h
  · refine .inr ⟨ad, rfl, ?_, fun j hj => (World.cell?_of_block (Below.heap_setCell _ _ _ _ (by have h := hne ad rfl; unfold Addr.add; split <;> simpa using h))).trans (hc j hj)⟩
    show _ < (W.heap.modify _ _).size
    rw [Array.size_modify]; exact hlt
theorem results_cell1 {P : Program} {fn : Func} {t : Tmp} {T ty : TypeId} (h : fn.results = #[.cell t T]) {d : TypeDesc} (hu : P.underlying T = some d) (hd : (match d with | .struct _ | .array _ _ => true | _ => false) = true)
    {tmps : Array Value} {g : Nat} {cs : Array Value} {fr : Nat × Nat} (hp : tmps.getD t undef = .pointer (some ⟨g, 0, none⟩)) {w : World} (hg : w.heap[g]? = some (.cells cs ty fr)) (hi : (P.info? T).map (·.size) = some cs.size) :
    (results fn tmps).run P w = .ok (.agg cs) w := by
  have hl := run_loadVar_row (P := P) w g ty T cs fr d hg hu hd hi
  simp only [results, h, Array.mapM_eq_mapM_toList, List.mapM_cons, List.mapM_nil]
  simp [Sem.run_bind, hp, asAddr, hl, Result.andThen]

theorem plain_any (w : World) : Calls Try.prog 68 #[] w fun e w' => e = .returned (.agg #[.int .i64 42, .int .i64 4, .int .i64 3, .int .i64 20, .int .i64 2, .int .i64 1, .int .i64 0, .int .i64 100, .int .i64 30, .int .i64 10, .int .i64 2, .int .i64 5, .int .i64 9, .int .i64 4, .int .i64 0]) ∧ Below w.heap.size w w' := by
  go_enter Try.func68, Try.ntmps68
  go_wp2
  exact ⟨rfl, _, results_cell1 rfl Try.underlying52 rfl rfl (heap_alloc_new w _) (by kernel_rfl), rfl, bel1 _ _⟩

set_option maxHeartbeats 4000000 in
set_option maxRecDepth 100000 in
theorem laid_any (w : World) : Calls Try.prog 49 #[] w fun e w' => e = .returned (.bool true) ∧ Below w.heap.size w w' := by
  go_enter Try.func49, Try.ntmps49
  go_wp2_with fail
  refine (plain_any _).mono ?_
  rintro e w0 ⟨rfl, hb0⟩
  have HB0 := Lib.hid hb0
  have hw0 := hb0.size
  clear hb0
  go_wp2_with fail
  have P1 := layPut_any 42 4 3 20 2 1 0 100 30 10 2 5 9 4 0 (w0.alloc (.cells #[.int .i64 42, .int .i64 4, .int .i64 3, .int .i64 20, .int .i64 2, .int .i64 1, .int .i64 0, .int .i64 100, .int .i64 30, .int .i64 10, .int .i64 2, .int .i64 5, .int .i64 9, .int .i64 4, .int .i64 0] 52)) (by decide)
  rw [laid_e1] at P1
  refine P1.mono ?_
  rintro e w1 ⟨u, rfl, uo, hb1⟩
  clear P1
  obtain ⟨uA, uc, rfl, hu1, hu2⟩ := own_slice uo
  have ur := RdI.of_own uo
  unfold maxLen at hu2
  have hune : ∀ ad, uA = some ad → ad.block ≠ w0.heap.size := by intro ad e; have := own_ge uo ad.block (by rw [e]; rfl); simp at this; omega
  have hR1 : w1.heap[w0.heap.size]? = some (.cells #[.int .i64 42, .int .i64 4, .int .i64 3, .int .i64 20, .int .i64 2, .int .i64 1, .int .i64 0, .int .i64 100, .int .i64 30, .int .i64 10, .int .i64 2, .int .i64 5, .int .i64 9, .int .i64 4, .int .i64 0] 52 (0, 0)) := (hb1.block w0.heap.size (by simp)).trans (heap_alloc_new w0 _)
  have hs1 := (Array.getElem?_eq_some_iff.1 hR1).1
  have HB1 := Lib.hid (bT (bA HB0.out _) hb1)
  clear uo hb1
  go_wp2_with fail
  have P2 := layGet_any uA uc [4, 0, 0, 0, 0, 0, 4, 2, 2, 1, 0, 0, 1, 0, 0, 0, 3, 0, 2, 0, 3, 2, 0, 1, 0, 0, 9, 0, 4, 0, 5] w1 ur hu1 (by omega) (by decide)
  rw [laid_e2] at P2
  refine P2.mono ?_
  rintro e w2 ⟨rfl, hb2⟩
  clear P2
  have hR2 := (hb2.block _ hs1).trans hR1
  replace ur := ur.below hb2
  have HB2 := Lib.hid (bT HB1.out hb2)
  have hs2 := (Array.getElem?_eq_some_iff.1 hR2).1
  clear hb2 hR1 hs1
  have hC2 : w0.heap.size < w2.heap.size ∧ w2.cell? ⟨w0.heap.size, 0, none⟩ = some (.int .i64 42) ∧ w2.cell? ⟨w0.heap.size, 1, none⟩ = some (.int .i64 4) ∧ w2.cell? ⟨w0.heap.size, 2, none⟩ = some (.int .i64 3) ∧ w2.cell? ⟨w0.heap.size, 3, none⟩ = some (.int .i64 20) ∧ w2.cell? ⟨w0.heap.size, 4, none⟩ = some (.int .i64 2) ∧ w2.cell? ⟨w0.heap.size, 5, none⟩ = some (.int .i64 1) ∧ w2.cell? ⟨w0.heap.size, 6, none⟩ = some (.int .i64 0) ∧ w2.cell? ⟨w0.heap.size, 7, none⟩ = some (.int .i64 100) ∧ w2.cell? ⟨w0.heap.size, 8, none⟩ = some (.int .i64 30) ∧ w2.cell? ⟨w0.heap.size, 9, none⟩ = some (.int .i64 10) ∧ w2.cell? ⟨w0.heap.size, 10, none⟩ = some (.int .i64 2) ∧ w2.cell? ⟨w0.heap.size, 11, none⟩ = some (.int .i64 5) ∧ w2.cell? ⟨w0.heap.size, 12, none⟩ = some (.int .i64 9) ∧ w2.cell? ⟨w0.heap.size, 13, none⟩ = some (.int .i64 4) ∧ w2.cell? ⟨w0.heap.size, 14, none⟩ = some (.int .i64 0) := ⟨(Array.getElem?_eq_some_iff.1 hR2).1, (cell_of_row _ _ 0 _ _ _ hR2).trans rfl, (cell_of_row _ _ 1 _ _ _ hR2).trans rfl, (cell_of_row _ _ 2 _ _ _ hR2).trans rfl, (cell_of_row _ _ 3 _ _ _ hR2).trans rfl, (cell_of_row _ _ 4 _ _ _ hR2).trans rfl, (cell_of_row _ _ 5 _ _ _ hR2).trans rfl, (cell_of_row _ _ 6 _ _ _ hR2).trans rfl, (cell_of_row _ _ 7 _ _ _ hR2).trans rfl, (cell_of_row _ _ 8 _ _ _ hR2).trans rfl, (cell_of_row _ _ 9 _ _ _ hR2).trans rfl, (cell_of_row _ _ 10 _ _ _ hR2).trans rfl, (cell_of_row _ _ 11 _ _ _ hR2).trans rfl, (cell_of_row _ _ 12 _ _ _ hR2).trans rfl, (cell_of_row _ _ 13 _ _ _ hR2).trans rfl, (cell_of_row _ _ 14 _ _ _ hR2).trans rfl⟩
  have hf2 : ∀ o, w2.frozen? ⟨w0.heap.size, o, none⟩ = false := by intro o; simp [World.frozen?, hR2]
  have HR2 := Lib.hid hR2
  clear hR2
  go_wp2_with fail
  obtain ⟨w3, hw3⟩ : ∃ w3, (w2.setCell ⟨w0.heap.size, 6, none⟩ (.int .i64 1)).alloc (.cells #[.int .i64 42, .int .i64 4, .int .i64 3, .int .i64 20, .int .i64 2, .int .i64 1, .int .i64 0, .int .i64 100, .int .i64 30, .int .i64 10, .int .i64 2, .int .i64 5, .int .i64 9, .int .i64 4, .int .i64 0] 52) = w3 := ⟨_, rfl⟩
  have hR3 : w3.heap[w0.heap.size]? = some (.cells #[.int .i64 42, .int .i64 4, .int .i64 3, .int .i64 20, .int .i64 2, .int .i64 1, .int .i64 1, .int .i64 100, .int .i64 30, .int .i64 10, .int .i64 2, .int .i64 5, .int .i64 9, .int .i64 4, .int .i64 0] 52 (0, 0)) := by rw [← hw3]; exact (Below.heap_alloc _ _ _ (by show _ < (w2.heap.modify _ _).size; rw [Array.size_modify]; exact hs2)).trans (row_set HR2.out 6 _)
  have hX3 : w3.heap[w2.heap.size]? = some (.cells #[.int .i64 42, .int .i64 4, .int .i64 3, .int .i64 20, .int .i64 2, .int .i64 1, .int .i64 0, .int .i64 100, .int .i64 30, .int .i64 10, .int .i64 2, .int .i64 5, .int .i64 9, .int .i64 4, .int .i64 0] 52 (0, 0)) := by rw [← hw3]; exact (congrArg (fun n => ((w2.setCell ⟨w0.heap.size, 6, none⟩ (.int .i64 1)).alloc _).heap[n]?) (by show _ = (w2.heap.modify _ _).size; rw [Array.size_modify])).trans (heap_alloc_new _ _)
  have HB3 : Hid (Below w.heap.size w w3) := Lib.hid (by rw [← hw3]; exact bA (bS HB2.out hw0) _)
  replace ur : RdI w3 .u8 uA [4, 0, 0, 0, 0, 0, 4, 2, 2, 1, 0, 0, 1, 0, 0, 0, 3, 0, 2, 0, 3, 2, 0, 1, 0, 0, 9, 0, 4, 0, 5] := by rw [← hw3]; exact (RdI.setCell ur hune).below (bel1 _ _)
  have hs3 := (Array.getElem?_eq_some_iff.1 hR3).1
  have hx3 := (Array.getElem?_eq_some_iff.1 hX3).1
  rw [hw3]
  have HW3 := Lib.hid hw3
  clear hw3 hC2 hf2
  have P3 := layPut_any 42 4 3 20 2 1 1 100 30 10 2 5 9 4 0 w3 (by decide)
  rw [laid_e3] at P3
  refine P3.mono ?_
  rintro e w4 ⟨v, rfl, vo, hb4⟩
  clear P3
  obtain ⟨vA, vc, rfl, _, _⟩ := own_slice vo
  clear vo
  have hR4 := (Below.block hb4 _ hs3).trans hR3
  have hX4 := (Below.block hb4 _ hx3).trans hX3
  replace ur := ur.below hb4
  have HB4 := Lib.hid (bT HB3.out hb4)
  have hs4 := (Array.getElem?_eq_some_iff.1 hR4).1
  have hx4 := (Array.getElem?_eq_some_iff.1 hX4).1
  clear hb4 hR3 hX3 hs3 hx3
  have hC4 : w0.heap.size < w4.heap.size ∧ w4.cell? ⟨w0.heap.size, 0, none⟩ = some (.int .i64 42) ∧ w4.cell? ⟨w0.heap.size, 1, none⟩ = some (.int .i64 4) ∧ w4.cell? ⟨w0.heap.size, 2, none⟩ = some (.int .i64 3) ∧ w4.cell? ⟨w0.heap.size, 3, none⟩ = some (.int .i64 20) ∧ w4.cell? ⟨w0.heap.size, 4, none⟩ = some (.int .i64 2) ∧ w4.cell? ⟨w0.heap.size, 5, none⟩ = some (.int .i64 1) ∧ w4.cell? ⟨w0.heap.size, 6, none⟩ = some (.int .i64 1) ∧ w4.cell? ⟨w0.heap.size, 7, none⟩ = some (.int .i64 100) ∧ w4.cell? ⟨w0.heap.size, 8, none⟩ = some (.int .i64 30) ∧ w4.cell? ⟨w0.heap.size, 9, none⟩ = some (.int .i64 10) ∧ w4.cell? ⟨w0.heap.size, 10, none⟩ = some (.int .i64 2) ∧ w4.cell? ⟨w0.heap.size, 11, none⟩ = some (.int .i64 5) ∧ w4.cell? ⟨w0.heap.size, 12, none⟩ = some (.int .i64 9) ∧ w4.cell? ⟨w0.heap.size, 13, none⟩ = some (.int .i64 4) ∧ w4.cell? ⟨w0.heap.size, 14, none⟩ = some (.int .i64 0) := ⟨(Array.getElem?_eq_some_iff.1 hR4).1, (cell_of_row _ _ 0 _ _ _ hR4).trans rfl, (cell_of_row _ _ 1 _ _ _ hR4).trans rfl, (cell_of_row _ _ 2 _ _ _ hR4).trans rfl, (cell_of_row _ _ 3 _ _ _ hR4).trans rfl, (cell_of_row _ _ 4 _ _ _ hR4).trans rfl, (cell_of_row _ _ 5 _ _ _ hR4).trans rfl, (cell_of_row _ _ 6 _ _ _ hR4).trans rfl, (cell_of_row _ _ 7 _ _ _ hR4).trans rfl, (cell_of_row _ _ 8 _ _ _ hR4).trans rfl, (cell_of_row _ _ 9 _ _ _ hR4).trans rfl, (cell_of_row _ _ 10 _ _ _ hR4).trans rfl, (cell_of_row _ _ 11 _ _ _ hR4).trans rfl, (cell_of_row _ _ 12 _ _ _ hR4).trans rfl, (cell_of_row _ _ 13 _ _ _ hR4).trans rfl, (cell_of_row _ _ 14 _ _ _ hR4).trans rfl⟩
  have hf4 : ∀ o, w4.frozen? ⟨w0.heap.size, o, none⟩ = false := by intro o; simp [World.frozen?, hR4]
  have HR4 := Lib.hid hR4
  have HX4 := Lib.hid hX4
  clear hR4 hX4
  go_wp2_with fail
  obtain ⟨w5, hw5⟩ : ∃ w5, w4.setCell ⟨w0.heap.size, 12, none⟩ (.int .i64 11) = w5 := ⟨_, rfl⟩
  have hR5 : w5.heap[w0.heap.size]? = some (.cells #[.int .i64 42, .int .i64 4, .int .i64 3, .int .i64 20, .int .i64 2, .int .i64 1, .int .i64 1, .int .i64 100, .int .i64 30, .int .i64 10, .int .i64 2, .int .i64 5, .int .i64 11, .int .i64 4, .int .i64 0] 52 (0, 0)) := by rw [← hw5]; exact row_set HR4.out 12 _
  have hX5 : w5.heap[w2.heap.size]? = some (.cells #[.int .i64 42, .int .i64 4, .int .i64 3, .int .i64 20, .int .i64 2, .int .i64 1, .int .i64 0, .int .i64 100, .int .i64 30, .int .i64 10, .int .i64 2, .int .i64 5, .int .i64 9, .int .i64 4, .int .i64 0] 52 (0, 0)) := by rw [← hw5]; exact (Below.heap_setCell _ _ _ _ (by show w2.heap.size ≠ w0.heap.size; omega)).trans HX4.out
  have HB5 : Hid (Below w.heap.size w w5) := Lib.hid (by rw [← hw5]; exact bS HB4.out hw0)
  replace ur : RdI w5 .u8 uA [4, 0, 0, 0, 0, 0, 4, 2, 2, 1, 0, 0, 1, 0, 0, 0, 3, 0, 2, 0, 3, 2, 0, 1, 0, 0, 9, 0, 4, 0, 5] := by rw [← hw5]; exact RdI.setCell ur hune
  have hs5 := (Array.getElem?_eq_some_iff.1 hR5).1
  have hx5 := (Array.getElem?_eq_some_iff.1 hX5).1
  rw [hw5]
  have HW5 := Lib.hid hw5
  clear hw5 hC4 hf4
  have P4 := layPut_any 42 4 3 20 2 1 1 100 30 10 2 5 11 4 0 w5 (by decide)
  rw [laid_e4] at P4
  refine P4.mono ?_
  rintro e w6 ⟨v, rfl, vo, hb6⟩
  clear P4
  obtain ⟨vA2, vc2, rfl, _, _⟩ := own_slice vo
  clear vo
  have hR6 := (Below.block hb6 _ hs5).trans hR5
  have hX6 := (Below.block hb6 _ hx5).trans hX5
  replace ur := ur.below hb6
  have HB6 := Lib.hid (bT HB5.out hb6)
  have hs6 := (Array.getElem?_eq_some_iff.1 hR6).1
  have hx6 := (Array.getElem?_eq_some_iff.1 hX6).1
  clear hb6 hR5 hX5 hs5 hx5
  go_wp2_with fail
  have P5 := layGet_any (some ⟨w6.heap.size, 0, none⟩) 2 [5, 1] (w6.alloc (.cells #[.int .u8 5, .int .u8 1] 5)) (RdI.lit' (l := [5, 1]) rfl) (by decide) (by decide) (by decide)
  rw [laid_e5] at P5
  refine P5.mono ?_
  rintro e w7 ⟨rfl, hb7⟩
  clear P5
  replace hb7 := bT (bel1 w6 _) hb7
  have hR7 := (Below.block hb7 _ hs6).trans hR6
  have hX7 := (Below.block hb7 _ hx6).trans hX6
  replace ur := ur.below hb7
  have HB7 := Lib.hid (bT HB6.out hb7)
  have hs7 := (Array.getElem?_eq_some_iff.1 hR7).1
  have hx7 := (Array.getElem?_eq_some_iff.1 hX7).1
  clear hb7 hR6 hX6 hs6 hx6
  go_wp2_with fail
  obtain ⟨w8, hw8⟩ : ∃ w8, w7.alloc (.cells #[.int .i64 0, .int .i64 0, .int .i64 0, .int .i64 0, .int .i64 0, .int .i64 0, .int .i64 0, .int .i64 0, .int .i64 0, .int .i64 0, .int .i64 0, .int .i64 0, .int .i64 0, .int .i64 0, .int .i64 0] 52) = w8 := ⟨_, rfl⟩
  have hb8 : Below w7.heap.size w7 w8 := by rw [← hw8]; exact bel1 _ _
  have hR8 := (Below.block hb8 _ hs7).trans hR7
  have hX8 := (Below.block hb8 _ hx7).trans hX7
  replace ur := ur.below hb8
  have HB8 := Lib.hid (bT HB7.out hb8)
  have hs8 := (Array.getElem?_eq_some_iff.1 hR8).1
  have hx8 := (Array.getElem?_eq_some_iff.1 hX8).1
  have hz8 : w8.heap.size = w7.heap.size + 1 := by rw [← hw8]; simp
  rw [hw8]
  clear hw8 hb8 hR7 hX7 hs7 hx7
  have P6 := layGet_any (some ⟨w7.heap.size + 1, 0, none⟩) 2 [1, 1] (w8.alloc (.cells #[.int .u8 1, .int .u8 1] 5)) (RdI.lit' (l := [1, 1]) hz8) (by decide) (by decide) (by decide)
  rw [laid_e6] at P6
  refine P6.mono ?_
  rintro e w9 ⟨rfl, hb9⟩
  clear P6 hz8
  replace hb9 := bT (bel1 w8 _) hb9
  have hR9 := (Below.block hb9 _ hs8).trans hR8
  have hX9 := (Below.block hb9 _ hx8).trans hX8
  replace ur := ur.below hb9
  have HB9 := Lib.hid (bT HB8.out hb9)
  have hs9 := (Array.getElem?_eq_some_iff.1 hR9).1
  have hx9 := (Array.getElem?_eq_some_iff.1 hX9).1
  clear hb9 hR8 hX8 hs8 hx8
  go_wp2_with fail
  have P7 := layWidths_any 3 (w9.alloc (.cells #[.int .i64 0, .int .i64 0, .int .i64 0, .int .i64 0, .int .i64 0, .int .i64 0, .int .i64 0, .int .i64 0, .int .i64 0, .int .i64 0, .int .i64 0, .int .i64 0, .int .i64 0, .int .i64 0, .int .i64 0] 52))
  rw [laid_e7, laid_e8] at P7
  refine P7.mono ?_
  rintro e w10 ⟨y, rfl, yo, hb10⟩
  clear P7
  obtain ⟨yA, yc, rfl, _, _⟩ := own_slice yo
  replace hb10 := bT (bel1 w9 _) hb10
  clear yo
  have hR10 := (Below.block hb10 _ hs9).trans hR9
  have hX10 := (Below.block hb10 _ hx9).trans hX9
  replace ur := ur.below hb10
  have HB10 := Lib.hid (bT HB9.out hb10)
  have hs10 := (Array.getElem?_eq_some_iff.1 hR10).1
  have hx10 := (Array.getElem?_eq_some_iff.1 hX10).1
  clear hb10 hR9 hX9 hs9 hx9
  go_wp2_with fail
  have hC10 : w0.heap.size < w10.heap.size ∧ w10.cell? ⟨w0.heap.size, 0, none⟩ = some (.int .i64 42) ∧ w10.cell? ⟨w0.heap.size, 1, none⟩ = some (.int .i64 4) ∧ w10.cell? ⟨w0.heap.size, 2, none⟩ = some (.int .i64 3) ∧ w10.cell? ⟨w0.heap.size, 3, none⟩ = some (.int .i64 20) ∧ w10.cell? ⟨w0.heap.size, 4, none⟩ = some (.int .i64 2) ∧ w10.cell? ⟨w0.heap.size, 5, none⟩ = some (.int .i64 1) ∧ w10.cell? ⟨w0.heap.size, 6, none⟩ = some (.int .i64 1) ∧ w10.cell? ⟨w0.heap.size, 7, none⟩ = some (.int .i64 100) ∧ w10.cell? ⟨w0.heap.size, 8, none⟩ = some (.int .i64 30) ∧ w10.cell? ⟨w0.heap.size, 9, none⟩ = some (.int .i64 10) ∧ w10.cell? ⟨w0.heap.size, 10, none⟩ = some (.int .i64 2) ∧ w10.cell? ⟨w0.heap.size, 11, none⟩ = some (.int .i64 5) ∧ w10.cell? ⟨w0.heap.size, 12, none⟩ = some (.int .i64 11) ∧ w10.cell? ⟨w0.heap.size, 13, none⟩ = some (.int .i64 4) ∧ w10.cell? ⟨w0.heap.size, 14, none⟩ = some (.int .i64 0) := ⟨(Array.getElem?_eq_some_iff.1 hR10).1, (cell_of_row _ _ 0 _ _ _ hR10).trans rfl, (cell_of_row _ _ 1 _ _ _ hR10).trans rfl, (cell_of_row _ _ 2 _ _ _ hR10).trans rfl, (cell_of_row _ _ 3 _ _ _ hR10).trans rfl, (cell_of_row _ _ 4 _ _ _ hR10).trans rfl, (cell_of_row _ _ 5 _ _ _ hR10).trans rfl, (cell_of_row _ _ 6 _ _ _ hR10).trans rfl, (cell_of_row _ _ 7 _ _ _ hR10).trans rfl, (cell_of_row _ _ 8 _ _ _ hR10).trans rfl, (cell_of_row _ _ 9 _ _ _ hR10).trans rfl, (cell_of_row _ _ 10 _ _ _ hR10).trans rfl, (cell_of_row _ _ 11 _ _ _ hR10).trans rfl, (cell_of_row _ _ 12 _ _ _ hR10).trans rfl, (cell_of_row _ _ 13 _ _ _ hR10).trans rfl, (cell_of_row _ _ 14 _ _ _ hR10).trans rfl⟩
  have hY10 : w2.heap.size < w10.heap.size ∧ w10.cell? ⟨w2.heap.size, 0, none⟩ = some (.int .i64 42) ∧ w10.cell? ⟨w2.heap.size, 1, none⟩ = some (.int .i64 4) ∧ w10.cell? ⟨w2.heap.size, 2, none⟩ = some (.int .i64 3) ∧ w10.cell? ⟨w2.heap.size, 3, none⟩ = some (.int .i64 20) ∧ w10.cell? ⟨w2.heap.size, 4, none⟩ = some (.int .i64 2) ∧ w10.cell? ⟨w2.heap.size, 5, none⟩ = some (.int .i64 1) ∧ w10.cell? ⟨w2.heap.size, 6, none⟩ = some (.int .i64 0) ∧ w10.cell? ⟨w2.heap.size, 7, none⟩ = some (.int .i64 100) ∧ w10.cell? ⟨w2.heap.size, 8, none⟩ = some (.int .i64 30) ∧ w10.cell? ⟨w2.heap.size, 9, none⟩ = some (.int .i64 10) ∧ w10.cell? ⟨w2.heap.size, 10, none⟩ = some (.int .i64 2) ∧ w10.cell? ⟨w2.heap.size, 11, none⟩ = some (.int .i64 5) ∧ w10.cell? ⟨w2.heap.size, 12, none⟩ = some (.int .i64 9) ∧ w10.cell? ⟨w2.heap.size, 13, none⟩ = some (.int .i64 4) ∧ w10.cell? ⟨w2.heap.size, 14, none⟩ = some (.int .i64 0) := ⟨(Array.getElem?_eq_some_iff.1 hX10).1, (cell_of_row _ _ 0 _ _ _ hX10).trans rfl, (cell_of_row _ _ 1 _ _ _ hX10).trans rfl, (cell_of_row _ _ 2 _ _ _ hX10).trans rfl, (cell_of_row _ _ 3 _ _ _ hX10).trans rfl, (cell_of_row _ _ 4 _ _ _ hX10).trans rfl, (cell_of_row _ _ 5 _ _ _ hX10).trans rfl, (cell_of_row _ _ 6 _ _ _ hX10).trans rfl, (cell_of_row _ _ 7 _ _ _ hX10).trans rfl, (cell_of_row _ _ 8 _ _ _ hX10).trans rfl, (cell_of_row _ _ 9 _ _ _ hX10).trans rfl, (cell_of_row _ _ 10 _ _ _ hX10).trans rfl, (cell_of_row _ _ 11 _ _ _ hX10).trans rfl, (cell_of_row _ _ 12 _ _ _ hX10).trans rfl, (cell_of_row _ _ 13 _ _ _ hX10).trans rfl, (cell_of_row _ _ 14 _ _ _ hX10).trans rfl⟩
  have hS10 : ((w0.heap.size < w10.heap.size ∧ w10.cell? ⟨w0.heap.size, 0, none⟩ = some (.int .i64 42) ∧ w10.cell? ⟨w0.heap.size, 1, none⟩ = some (.int .i64 4) ∧ w10.cell? ⟨w0.heap.size, 2, none⟩ = some (.int .i64 3) ∧ w10.cell? ⟨w0.heap.size, 3, none⟩ = some (.int .i64 20) ∧ w10.cell? ⟨w0.heap.size, 4, none⟩ = some (.int .i64 2) ∧ w10.cell? ⟨w0.heap.size, 5, none⟩ = some (.int .i64 1) ∧ w10.cell? ⟨w0.heap.size, 6, none⟩ = some (.int .i64 1) ∧ w10.cell? ⟨w0.heap.size, 7, none⟩ = some (.int .i64 100) ∧ w10.cell? ⟨w0.heap.size, 8, none⟩ = some (.int .i64 30) ∧ w10.cell? ⟨w0.heap.size, 9, none⟩ = some (.int .i64 10) ∧ w10.cell? ⟨w0.heap.size, 10, none⟩ = some (.int .i64 2) ∧ w10.cell? ⟨w0.heap.size, 11, none⟩ = some (.int .i64 5) ∧ w10.cell? ⟨w0.heap.size, 12, none⟩ = some (.int .i64 11) ∧ w10.cell? ⟨w0.heap.size, 13, none⟩ = some (.int .i64 4) ∧ w10.cell? ⟨w0.heap.size, 14, none⟩ = some (.int .i64 0)) ∧ Below w10.heap.size w10 w10) ∧ ((w2.heap.size < w10.heap.size ∧ w10.cell? ⟨w2.heap.size, 0, none⟩ = some (.int .i64 42) ∧ w10.cell? ⟨w2.heap.size, 1, none⟩ = some (.int .i64 4) ∧ w10.cell? ⟨w2.heap.size, 2, none⟩ = some (.int .i64 3) ∧ w10.cell? ⟨w2.heap.size, 3, none⟩ = some (.int .i64 20) ∧ w10.cell? ⟨w2.heap.size, 4, none⟩ = some (.int .i64 2) ∧ w10.cell? ⟨w2.heap.size, 5, none⟩ = some (.int .i64 1) ∧ w10.cell? ⟨w2.heap.size, 6, none⟩ = some (.int .i64 0) ∧ w10.cell? ⟨w2.heap.size, 7, none⟩ = some (.int .i64 100) ∧ w10.cell? ⟨w2.heap.size, 8, none⟩ = some (.int .i64 30) ∧ w10.cell? ⟨w2.heap.size, 9, none⟩ = some (.int .i64 10) ∧ w10.cell? ⟨w2.heap.size, 10, none⟩ = some (.int .i64 2) ∧ w10.cell? ⟨w2.heap.size, 11, none⟩ = some (.int .i64 5) ∧ w10.cell? ⟨w2.heap.size, 12, none⟩ = some (.int .i64 9) ∧ w10.cell? ⟨w2.heap.size, 13, none⟩ = some (.int .i64 4) ∧ w10.cell? ⟨w2.heap.size, 14, none⟩ = some (.int .i64 0)) ∧ Below w10.heap.size w10 w10) ∧ RdI w10 .u8 uA [4, 0, 0, 0, 0, 0, 4, 2, 2, 1, 0, 0, 1, 0, 0, 0, 3, 0, 2, 0, 3, 2, 0, 1, 0, 0, 9, 0, 4, 0, 5] := ⟨⟨hC10, Below.refl _ _⟩, ⟨hY10, Below.refl _ _⟩, ur⟩
  clear hC10 hY10 hR10 hX10 hs10 hx10 ur hune
  refine wp_region_held_drew (S := fun w9 => ((w0.heap.size < w9.heap.size ∧ w9.cell? ⟨w0.heap.size, 0, none⟩ = some (.int .i64 42) ∧ w9.cell? ⟨w0.heap.size, 1, none⟩ = some (.int .i64 4) ∧ w9.cell? ⟨w0.heap.size, 2, none⟩ = some (.int .i64 3) ∧ w9.cell? ⟨w0.heap.size, 3, none⟩ = some (.int .i64 20) ∧ w9.cell? ⟨w0.heap.size, 4, none⟩ = some (.int .i64 2) ∧ w9.cell? ⟨w0.heap.size, 5, none⟩ = some (.int .i64 1) ∧ w9.cell? ⟨w0.heap.size, 6, none⟩ = some (.int .i64 1) ∧ w9.cell? ⟨w0.heap.size, 7, none⟩ = some (.int .i64 100) ∧ w9.cell? ⟨w0.heap.size, 8, none⟩ = some (.int .i64 30) ∧ w9.cell? ⟨w0.heap.size, 9, none⟩ = some (.int .i64 10) ∧ w9.cell? ⟨w0.heap.size, 10, none⟩ = some (.int .i64 2) ∧ w9.cell? ⟨w0.heap.size, 11, none⟩ = some (.int .i64 5) ∧ w9.cell? ⟨w0.heap.size, 12, none⟩ = some (.int .i64 11) ∧ w9.cell? ⟨w0.heap.size, 13, none⟩ = some (.int .i64 4) ∧ w9.cell? ⟨w0.heap.size, 14, none⟩ = some (.int .i64 0)) ∧ Below w10.heap.size w10 w9) ∧ ((w2.heap.size < w9.heap.size ∧ w9.cell? ⟨w2.heap.size, 0, none⟩ = some (.int .i64 42) ∧ w9.cell? ⟨w2.heap.size, 1, none⟩ = some (.int .i64 4) ∧ w9.cell? ⟨w2.heap.size, 2, none⟩ = some (.int .i64 3) ∧ w9.cell? ⟨w2.heap.size, 3, none⟩ = some (.int .i64 20) ∧ w9.cell? ⟨w2.heap.size, 4, none⟩ = some (.int .i64 2) ∧ w9.cell? ⟨w2.heap.size, 5, none⟩ = some (.int .i64 1) ∧ w9.cell? ⟨w2.heap.size, 6, none⟩ = some (.int .i64 0) ∧ w9.cell? ⟨w2.heap.size, 7, none⟩ = some (.int .i64 100) ∧ w9.cell? ⟨w2.heap.size, 8, none⟩ = some (.int .i64 30) ∧ w9.cell? ⟨w2.heap.size, 9, none⟩ = some (.int .i64 10) ∧ w9.cell? ⟨w2.heap.size, 10, none⟩ = some (.int .i64 2) ∧ w9.cell? ⟨w2.heap.size, 11, none⟩ = some (.int .i64 5) ∧ w9.cell? ⟨w2.heap.size, 12, none⟩ = some (.int .i64 9) ∧ w9.cell? ⟨w2.heap.size, 13, none⟩ = some (.int .i64 4) ∧ w9.cell? ⟨w2.heap.size, 14, none⟩ = some (.int .i64 0)) ∧ Below w10.heap.size w10 w9) ∧ RdI w9 .u8 uA [4, 0, 0, 0, 0, 0, 4, 2, 2, 1, 0, 0, 1, 0, 0, 0, 3, 0, 2, 0, 3, 2, 0, 1, 0, 0, 9, 0, 4, 0, 5]) (by kernel_rfl) ⟨⟨hS10.1.1, hS10.1.2.drew⟩, ⟨hS10.2.1.1, hS10.2.1.2.drew⟩, hS10.2.2⟩ (fun hHeld => ?_)
  refine wpAnyH_take (i := 0) (oi := ?_) (v := ?_) ?hiu162 (by as_aux_lemma => kernel_rfl) (by as_aux_lemma => kernel_rfl) (by as_aux_lemma => kernel_rfl) ?hQu162 (Or.inl ⟨?hwu162, ?hyu162⟩) hHeld ?restu162
  case hiu162 => simp only [List.getElem?_toArray, List.getElem?_cons_zero, List.getElem?_cons_succ]; rfl
  case hwu162 => rfl
  case hyu162 => (intro w9 hSw; (try dsimp only at hSw); go_simp; (try with_reducible rfl))
  case hQu162 => exact fun _ _ _ h => h
  (try simp only [Act.put, List.setIfInBounds_toArray, List.set_cons_zero, List.set_cons_succ])
  refine wpAnyH_take (i := 1) (oi := ?_) (v := ?_) ?hiu163 (by as_aux_lemma => kernel_rfl) (by as_aux_lemma => kernel_rfl) (by as_aux_lemma => kernel_rfl) ?hQu163 (Or.inl ⟨?hwu163, ?hyu163⟩) hHeld ?restu163
  case hiu163 => simp only [List.getElem?_toArray, List.getElem?_cons_zero, List.getElem?_cons_succ]; rfl
  case hwu163 => rfl
  case hyu163 => (intro w9 hSw; (try dsimp only at hSw); go_simp; (try with_reducible rfl))
  case hQu163 => exact fun _ _ _ h => h
  (try simp only [Act.put, List.setIfInBounds_toArray, List.set_cons_zero, List.set_cons_succ])
  refine wpAnyH_take (i := 2) (oi := ?_) (v := ?_) ?hiu164 (by as_aux_lemma => kernel_rfl) (by as_aux_lemma => kernel_rfl) (by as_aux_lemma => kernel_rfl) ?hQu164 (Or.inl ⟨?hwu164, ?hyu164⟩) hHeld ?restu164
  case hiu164 => simp only [List.getElem?_toArray, List.getElem?_cons_zero, List.getElem?_cons_succ]; rfl
  case hwu164 => rfl
  case hyu164 => (intro w9 hSw; (try dsimp only at hSw); go_simp; (try with_reducible rfl))
  case hQu164 => exact fun _ _ _ h => h
  (try simp only [Act.put, List.setIfInBounds_toArray, List.set_cons_zero, List.set_cons_succ])
  refine wpAnyH_take (i := 3) (oi := ?_) (v := ?_) ?hiu165 (by as_aux_lemma => kernel_rfl) (by as_aux_lemma => kernel_rfl) (by as_aux_lemma => kernel_rfl) ?hQu165 (Or.inl ⟨?hwu165, ?hyu165⟩) hHeld ?restu165
  case hiu165 => simp only [List.getElem?_toArray, List.getElem?_cons_zero, List.getElem?_cons_succ]; rfl
  case hwu165 => rfl
  case hyu165 => (intro w9 hSw; (try dsimp only at hSw); go_simp; (try with_reducible rfl))
  case hQu165 => exact fun _ _ _ h => h
  (try simp only [Act.put, List.setIfInBounds_toArray, List.set_cons_zero, List.set_cons_succ])
  refine wpAnyH_ready (rs := [4]) (by as_aux_lemma => kernel_rfl) (by simp) (AllReadyH.cons (o := ?_) ?hiu166 (fun K hK => ?_) AllReadyH.nil)
  case hiu166 => simp only [List.getElem?_toArray, List.getElem?_cons_zero, List.getElem?_cons_succ]; rfl
  go_simp
  refine hK.out _ _ ?_ (fun hHeld => ?_)
  · exact ⟨qr_below hS10.1 (bel1 _ _).drew, qr_below hS10.2.1 (bel1 _ _).drew, hS10.2.2.below (bel1 _ _).drew⟩
  clear hK K
  (try simp only [Act.put, List.setIfInBounds_toArray, List.set_cons_zero, List.set_cons_succ])
  refine wpAnyH_ready (rs := [5]) (by as_aux_lemma => kernel_rfl) (by simp) (AllReadyH.cons (o := ?_) ?hiu167 (fun K hK => ?_) AllReadyH.nil)
  case hiu167 => simp only [List.getElem?_toArray, List.getElem?_cons_zero, List.getElem?_cons_succ]; rfl
  rw [if_pos (by rfl)]
  go_wp2_with fail
  refine (same01_any _ _ _ _ [4, 0, 0, 0, 0, 0, 4, 2, 2, 1, 0, 0, 1, 0, 0, 0, 3, 0, 2, 0, 3, 2, 0, 1, 0, 0, 9, 0, 4, 0, 5] [4, 0, 0, 0, 0, 0, 4, 2, 2, 1, 0, 0, 1, 0, 0, 0, 3, 0, 2, 0, 3, 2, 0, 1, 0, 0, 9, 0, 4, 0, 5] _ hHeld.2.2 (show RdI (w10.alloc (.cells #[.int .u8 4, .int .u8 0, .int .u8 0, .int .u8 0, .int .u8 0, .int .u8 0, .int .u8 4, .int .u8 2, .int .u8 2, .int .u8 1, .int .u8 0, .int .u8 0, .int .u8 1, .int .u8 0, .int .u8 0, .int .u8 0, .int .u8 3, .int .u8 0, .int .u8 2, .int .u8 0, .int .u8 3, .int .u8 2, .int .u8 0, .int .u8 1, .int .u8 0, .int .u8 0, .int .u8 9, .int .u8 0, .int .u8 4, .int .u8 0, .int .u8 5] 5)) _ _ _ from RdI.lit' (l := [4, 0, 0, 0, 0, 0, 4, 2, 2, 1, 0, 0, 1, 0, 0, 0, 3, 0, 2, 0, 3, 2, 0, 1, 0, 0, 9, 0, 4, 0, 5]) rfl) (by decide) (by decide)).mono ?_
  rintro e w11 ⟨he, n11, hw11⟩
  rw [laid_e9] at he
  subst he
  have hb11 : Below w10.heap.size w10 w11 := by rw [hw11]; exact bN (bel1 _ _).drew n11
  clear hw11
  dsimp only
  refine hK.out _ _ ?_ (fun hHeld => ?_)
  · exact ⟨qr_below hS10.1 hb11, qr_below hS10.2.1 hb11, hS10.2.2.below hb11⟩
  clear hK K
  (try simp only [Act.put, List.setIfInBounds_toArray, List.set_cons_zero, List.set_cons_succ])
  refine wpAnyH_take (i := 6) (oi := ?_) (v := ?_) ?hiu168 (by as_aux_lemma => kernel_rfl) (by as_aux_lemma => kernel_rfl) (by as_aux_lemma => kernel_rfl) ?hQu168 (Or.inl ⟨?hwu168, ?hyu168⟩) hHeld ?restu168
  case hiu168 => simp only [List.getElem?_toArray, List.getElem?_cons_zero, List.getElem?_cons_succ]; rfl
  case hwu168 => rfl
  case hyu168 => (intro w9 hSw; (try dsimp only at hSw); go_simp; (try with_reducible rfl))
  case hQu168 => exact fun _ _ _ h => h
  (try simp only [Act.put, List.setIfInBounds_toArray, List.set_cons_zero, List.set_cons_succ])
  refine wpAnyH_take (i := 7) (oi := ?_) (v := ?_) ?hiu169 (by as_aux_lemma => kernel_rfl) (by as_aux_lemma => kernel_rfl) (by as_aux_lemma => kernel_rfl) ?hQu169 (Or.inl ⟨?hwu169, ?hyu169⟩) hHeld ?restu169
  case hiu169 => simp only [List.getElem?_toArray, List.getElem?_cons_zero, List.getElem?_cons_succ]; rfl
  case hwu169 => rfl
  case hyu169 => (intro w9 hSw; (try dsimp only at hSw); go_simp; (try with_reducible rfl))
  case hQu169 => exact fun _ _ _ h => h
  (try simp only [Act.put, List.setIfInBounds_toArray, List.set_cons_zero, List.set_cons_succ])
  refine wpAnyH_take (i := 8) (oi := ?_) (v := ?_) ?hiu170 (by as_aux_lemma => kernel_rfl) (by as_aux_lemma => kernel_rfl) (by as_aux_lemma => kernel_rfl) ?hQu170 (Or.inl ⟨?hwu170, ?hyu170⟩) hHeld ?restu170
  case hiu170 => simp only [List.getElem?_toArray, List.getElem?_cons_zero, List.getElem?_cons_succ]; rfl
  case hwu170 => rfl
  case hyu170 => (intro w9 hSw; (try dsimp only at hSw); go_simp; (try with_reducible rfl))
  case hQu170 => exact fun _ _ _ h => h
  (try simp only [Act.put, List.setIfInBounds_toArray, List.set_cons_zero, List.set_cons_succ])
  refine wpAnyH_take (i := 9) (oi := ?_) (v := ?_) ?hiu171 (by as_aux_lemma => kernel_rfl) (by as_aux_lemma => kernel_rfl) (by as_aux_lemma => kernel_rfl) ?hQu171 (Or.inl ⟨?hwu171, ?hyu171⟩) hHeld ?restu171
  case hiu171 => simp only [List.getElem?_toArray, List.getElem?_cons_zero, List.getElem?_cons_succ]; rfl
  case hwu171 => rfl
  case hyu171 => (intro w9 hSw; (try dsimp only at hSw); go_simp; (try with_reducible rfl))
  case hQu171 => exact fun _ _ _ h => h
  (try simp only [Act.put, List.setIfInBounds_toArray, List.set_cons_zero, List.set_cons_succ])
  refine wpAnyH_take (i := 10) (oi := ?_) (v := ?_) ?hiu172 (by as_aux_lemma => kernel_rfl) (by as_aux_lemma => kernel_rfl) (by as_aux_lemma => kernel_rfl) ?hQu172 (Or.inl ⟨?hwu172, ?hyu172⟩) hHeld ?restu172
  case hiu172 => simp only [List.getElem?_toArray, List.getElem?_cons_zero, List.getElem?_cons_succ]; rfl
  case hwu172 => rfl
  case hyu172 => (intro w9 hSw; (try dsimp only at hSw); go_simp; (try with_reducible rfl))
  case hQu172 => exact fun _ _ _ h => h
  (try simp only [Act.put, List.setIfInBounds_toArray, List.set_cons_zero, List.set_cons_succ])
  refine wpAnyH_take (i := 11) (oi := ?_) (v := ?_) ?hiu173 (by as_aux_lemma => kernel_rfl) (by as_aux_lemma => kernel_rfl) (by as_aux_lemma => kernel_rfl) ?hQu173 (Or.inl ⟨?hwu173, ?hyu173⟩) hHeld ?restu173
  case hiu173 => simp only [List.getElem?_toArray, List.getElem?_cons_zero, List.getElem?_cons_succ]; rfl
  case hwu173 => rfl
  case hyu173 => (intro w9 hSw; (try dsimp only at hSw); go_simp; (try with_reducible rfl))
  case hQu173 => exact fun _ _ _ h => h
  (try simp only [Act.put, List.setIfInBounds_toArray, List.set_cons_zero, List.set_cons_succ])
  refine wpAnyH_take (i := 12) (oi := ?_) (v := ?_) ?hiu174 (by as_aux_lemma => kernel_rfl) (by as_aux_lemma => kernel_rfl) (by as_aux_lemma => kernel_rfl) ?hQu174 (Or.inl ⟨?hwu174, ?hyu174⟩) hHeld ?restu174
  case hiu174 => simp only [List.getElem?_toArray, List.getElem?_cons_zero, List.getElem?_cons_succ]; rfl
  case hwu174 => rfl
  case hyu174 => (intro w9 hSw; (try dsimp only at hSw); go_simp; (try with_reducible rfl))
  case hQu174 => exact fun _ _ _ h => h
  (try simp only [Act.put, List.setIfInBounds_toArray, List.set_cons_zero, List.set_cons_succ])
  refine wpAnyH_take (i := 13) (oi := ?_) (v := ?_) ?hiu175 (by as_aux_lemma => kernel_rfl) (by as_aux_lemma => kernel_rfl) (by as_aux_lemma => kernel_rfl) ?hQu175 (Or.inl ⟨?hwu175, ?hyu175⟩) hHeld ?restu175
  case hiu175 => simp only [List.getElem?_toArray, List.getElem?_cons_zero, List.getElem?_cons_succ]; rfl
  case hwu175 => rfl
  case hyu175 => (intro w9 hSw; (try dsimp only at hSw); go_simp; (try with_reducible rfl))
  case hQu175 => exact fun _ _ _ h => h
  (try simp only [Act.put, List.setIfInBounds_toArray, List.set_cons_zero, List.set_cons_succ])
  refine wpAnyH_ready (rs := [14]) (by as_aux_lemma => kernel_rfl) (by simp) (AllReadyH.cons (o := ?_) ?hiu176 (fun K hK => ?_) AllReadyH.nil)
  case hiu176 => simp only [List.getElem?_toArray, List.getElem?_cons_zero, List.getElem?_cons_succ]; rfl
  rw [if_pos (by rfl)]
  go_wp2_with fail
  refine (plain_any _).mono ?_
  rintro e w12 ⟨rfl, hb12⟩
  dsimp only
  refine hK.out _ _ ?_ (fun hHeld => ?_)
  · exact ⟨qr_below hHeld.1 hb12, qr_below hHeld.2.1 hb12, hHeld.2.2.below hb12⟩
  clear hK K
  (try simp only [Act.put, List.setIfInBounds_toArray, List.set_cons_zero, List.set_cons_succ])
  refine wpAnyH_take (i := 15) (oi := ?_) (v := ?_) ?hiu177 (by as_aux_lemma => kernel_rfl) (by as_aux_lemma => kernel_rfl) (by as_aux_lemma => kernel_rfl) ?hQu177 (Or.inl ⟨?hwu177, ?hyu177⟩) hHeld ?restu177
  case hiu177 => simp only [List.getElem?_toArray, List.getElem?_cons_zero, List.getElem?_cons_succ]; rfl
  case hwu177 => rfl
  case hyu177 => (intro w9 hSw; (try dsimp only at hSw); go_simp; (try with_reducible rfl))
  case hQu177 => exact fun _ _ _ h => h
  (try simp only [Act.put, List.setIfInBounds_toArray, List.set_cons_zero, List.set_cons_succ])
  refine wpAnyH_take (i := 16) (oi := ?_) (v := ?_) ?hiu178 (by as_aux_lemma => kernel_rfl) (by as_aux_lemma => kernel_rfl) (by as_aux_lemma => kernel_rfl) ?hQu178 (Or.inl ⟨?hwu178, ?hyu178⟩) hHeld ?restu178
  case hiu178 => simp only [List.getElem?_toArray, List.getElem?_cons_zero, List.getElem?_cons_succ]; rfl
  case hwu178 => rfl
  case hyu178 => (intro w9 hSw; (try dsimp only at hSw); go_simp; (try with_reducible rfl))
  case hQu178 => exact fun _ _ _ h => h
  (try simp only [Act.put, List.setIfInBounds_toArray, List.set_cons_zero, List.set_cons_succ])
  refine wpAnyH_take (i := 17) (oi := ?_) (v := ?_) ?hiu179 (by as_aux_lemma => kernel_rfl) (by as_aux_lemma => kernel_rfl) (by as_aux_lemma => kernel_rfl) ?hQu179 (Or.inl ⟨?hwu179, ?hyu179⟩) hHeld ?restu179
  case hiu179 => simp only [List.getElem?_toArray, List.getElem?_cons_zero, List.getElem?_cons_succ]; rfl
  case hwu179 => rfl
  case hyu179 => (intro w9 hSw; (try dsimp only at hSw); go_simp; (try with_reducible rfl))
  case hQu179 => exact fun _ _ _ h => h
  (try simp only [Act.put, List.setIfInBounds_toArray, List.set_cons_zero, List.set_cons_succ])
  refine wpAnyH_take (i := 18) (oi := ?_) (v := ?_) ?hiu180 (by as_aux_lemma => kernel_rfl) (by as_aux_lemma => kernel_rfl) (by as_aux_lemma => kernel_rfl) ?hQu180 (Or.inl ⟨?hwu180, ?hyu180⟩) hHeld ?restu180
  case hiu180 => simp only [List.getElem?_toArray, List.getElem?_cons_zero, List.getElem?_cons_succ]; rfl
  case hwu180 => rfl
  case hyu180 => (intro w9 hSw; (try dsimp only at hSw); go_simp; (try with_reducible rfl))
  case hQu180 => exact fun _ _ _ h => h
  (try simp only [Act.put, List.setIfInBounds_toArray, List.set_cons_zero, List.set_cons_succ])
  refine wpAnyH_take (i := 19) (oi := ?_) (v := ?_) ?hiu181 (by as_aux_lemma => kernel_rfl) (by as_aux_lemma => kernel_rfl) (by as_aux_lemma => kernel_rfl) ?hQu181 (Or.inl ⟨?hwu181, ?hyu181⟩) hHeld ?restu181
  case hiu181 => simp only [List.getElem?_toArray, List.getElem?_cons_zero, List.getElem?_cons_succ]; rfl
  case hwu181 => rfl
  case hyu181 => (intro w9 hSw; (try dsimp only at hSw); go_simp; (try with_reducible rfl))
  case hQu181 => exact fun _ _ _ h => h
  (try simp only [Act.put, List.setIfInBounds_toArray, List.set_cons_zero, List.set_cons_succ])
  refine wpAnyH_take (i := 20) (oi := ?_) (v := ?_) ?hiu182 (by as_aux_lemma => kernel_rfl) (by as_aux_lemma => kernel_rfl) (by as_aux_lemma => kernel_rfl) ?hQu182 (Or.inl ⟨?hwu182, ?hyu182⟩) hHeld ?restu182
  case hiu182 => simp only [List.getElem?_toArray, List.getElem?_cons_zero, List.getElem?_cons_succ]; rfl
  case hwu182 => rfl
  case hyu182 => (intro w9 hSw; (try dsimp only at hSw); go_simp; (try with_reducible rfl))
  case hQu182 => exact fun _ _ _ h => h
  (try simp only [Act.put, List.setIfInBounds_toArray, List.set_cons_zero, List.set_cons_succ])
  refine wpAnyH_take (i := 21) (oi := ?_) (v := ?_) ?hiu183 (by as_aux_lemma => kernel_rfl) (by as_aux_lemma => kernel_rfl) (by as_aux_lemma => kernel_rfl) ?hQu183 (Or.inl ⟨?hwu183, ?hyu183⟩) hHeld ?restu183
  case hiu183 => simp only [List.getElem?_toArray, List.getElem?_cons_zero, List.getElem?_cons_succ]; rfl
  case hwu183 => rfl
  case hyu183 => (intro w9 hSw; (try dsimp only at hSw); go_simp; (try with_reducible rfl))
  case hQu183 => exact fun _ _ _ h => h
  (try simp only [Act.put, List.setIfInBounds_toArray, List.set_cons_zero, List.set_cons_succ])
  refine wpAnyH_take (i := 22) (oi := ?_) (v := ?_) ?hiu184 (by as_aux_lemma => kernel_rfl) (by as_aux_lemma => kernel_rfl) (by as_aux_lemma => kernel_rfl) ?hQu184 (Or.inl ⟨?hwu184, ?hyu184⟩) hHeld ?restu184
  case hiu184 => simp only [List.getElem?_toArray, List.getElem?_cons_zero, List.getElem?_cons_succ]; rfl
  case hwu184 => rfl
  case hyu184 => (intro w9 hSw; (try dsimp only at hSw); go_simp; (try with_reducible rfl))
  case hQu184 => exact fun _ _ _ h => h
  (try simp only [Act.put, List.setIfInBounds_toArray, List.set_cons_zero, List.set_cons_succ])
  refine wpAnyH_take (i := 23) (oi := ?_) (v := ?_) ?hiu185 (by as_aux_lemma => kernel_rfl) (by as_aux_lemma => kernel_rfl) (by as_aux_lemma => kernel_rfl) ?hQu185 (Or.inl ⟨?hwu185, ?hyu185⟩) hHeld ?restu185
  case hiu185 => simp only [List.getElem?_toArray, List.getElem?_cons_zero, List.getElem?_cons_succ]; rfl
  case hwu185 => rfl
  case hyu185 => (intro w9 hSw; (try dsimp only at hSw); go_simp; (try with_reducible rfl))
  case hQu185 => exact fun _ _ _ h => h
  (try simp only [Act.put, List.setIfInBounds_toArray, List.set_cons_zero, List.set_cons_succ])
  refine wpAnyH_take (i := 24) (oi := ?_) (v := ?_) ?hiu186 (by as_aux_lemma => kernel_rfl) (by as_aux_lemma => kernel_rfl) (by as_aux_lemma => kernel_rfl) ?hQu186 (Or.inl ⟨?hwu186, ?hyu186⟩) hHeld ?restu186
  case hiu186 => simp only [List.getElem?_toArray, List.getElem?_cons_zero, List.getElem?_cons_succ]; rfl
  case hwu186 => rfl
  case hyu186 => (intro w9 hSw; (try dsimp only at hSw); go_simp; (try with_reducible rfl))
  case hQu186 => exact fun _ _ _ h => h
  (try simp only [Act.put, List.setIfInBounds_toArray, List.set_cons_zero, List.set_cons_succ])
  refine wpAnyH_take (i := 25) (oi := ?_) (v := ?_) ?hiu187 (by as_aux_lemma => kernel_rfl) (by as_aux_lemma => kernel_rfl) (by as_aux_lemma => kernel_rfl) ?hQu187 (Or.inl ⟨?hwu187, ?hyu187⟩) hHeld ?restu187
  case hiu187 => simp only [List.getElem?_toArray, List.getElem?_cons_zero, List.getElem?_cons_succ]; rfl
  case hwu187 => rfl
  case hyu187 => (intro w9 hSw; (try dsimp only at hSw); go_simp; (try with_reducible rfl))
  case hQu187 => exact fun _ _ _ h => h
  (try simp only [Act.put, List.setIfInBounds_toArray, List.set_cons_zero, List.set_cons_succ])
  refine wpAnyH_take (i := 26) (oi := ?_) (v := ?_) ?hiu188 (by as_aux_lemma => kernel_rfl) (by as_aux_lemma => kernel_rfl) (by as_aux_lemma => kernel_rfl) ?hQu188 (Or.inl ⟨?hwu188, ?hyu188⟩) hHeld ?restu188
  case hiu188 => simp only [List.getElem?_toArray, List.getElem?_cons_zero, List.getElem?_cons_succ]; rfl
  case hwu188 => rfl
  case hyu188 => (intro w9 hSw; (try dsimp only at hSw); go_simp; (try with_reducible rfl))
  case hQu188 => exact fun _ _ _ h => h
  (try simp only [Act.put, List.setIfInBounds_toArray, List.set_cons_zero, List.set_cons_succ])
  refine wpAnyH_take (i := 27) (oi := ?_) (v := ?_) ?hiu189 (by as_aux_lemma => kernel_rfl) (by as_aux_lemma => kernel_rfl) (by as_aux_lemma => kernel_rfl) ?hQu189 (Or.inl ⟨?hwu189, ?hyu189⟩) hHeld ?restu189
  case hiu189 => simp only [List.getElem?_toArray, List.getElem?_cons_zero, List.getElem?_cons_succ]; rfl
  case hwu189 => rfl
  case hyu189 => (intro w9 hSw; (try dsimp only at hSw); go_simp; (try with_reducible rfl))
  case hQu189 => exact fun _ _ _ h => h
  (try simp only [Act.put, List.setIfInBounds_toArray, List.set_cons_zero, List.set_cons_succ])
  refine wpAnyH_take (i := 28) (oi := ?_) (v := ?_) ?hiu190 (by as_aux_lemma => kernel_rfl) (by as_aux_lemma => kernel_rfl) (by as_aux_lemma => kernel_rfl) ?hQu190 (Or.inl ⟨?hwu190, ?hyu190⟩) hHeld ?restu190
  case hiu190 => simp only [List.getElem?_toArray, List.getElem?_cons_zero, List.getElem?_cons_succ]; rfl
  case hwu190 => rfl
  case hyu190 => (intro w9 hSw; (try dsimp only at hSw); go_simp; (try with_reducible rfl))
  case hQu190 => exact fun _ _ _ h => h
  (try simp only [Act.put, List.setIfInBounds_toArray, List.set_cons_zero, List.set_cons_succ])
  refine wpAnyH_take (i := 29) (oi := ?_) (v := ?_) ?hiu191 (by as_aux_lemma => kernel_rfl) (by as_aux_lemma => kernel_rfl) (by as_aux_lemma => kernel_rfl) ?hQu191 (Or.inl ⟨?hwu191, ?hyu191⟩) hHeld ?restu191
  case hiu191 => simp only [List.getElem?_toArray, List.getElem?_cons_zero, List.getElem?_cons_succ]; rfl
  case hwu191 => rfl
  case hyu191 => (intro w9 hSw; (try dsimp only at hSw); go_simp; (try with_reducible rfl))
  case hQu191 => exact fun _ _ _ h => h
  (try simp only [Act.put, List.setIfInBounds_toArray, List.set_cons_zero, List.set_cons_succ])
  refine wpAnyH_take (i := 30) (oi := ?_) (v := ?_) ?hiu192 (by as_aux_lemma => kernel_rfl) (by as_aux_lemma => kernel_rfl) (by as_aux_lemma => kernel_rfl) ?hQu192 (Or.inl ⟨?hwu192, ?hyu192⟩) hHeld ?restu192
  case hiu192 => simp only [List.getElem?_toArray, List.getElem?_cons_zero, List.getElem?_cons_succ]; rfl
  case hwu192 => rfl
  case hyu192 => (intro w9 hSw; (try dsimp only at hSw); go_simp; (try with_reducible rfl))
  case hQu192 => exact fun _ _ _ h => h
  (try simp only [Act.put, List.setIfInBounds_toArray, List.set_cons_zero, List.set_cons_succ])
  refine wpAnyH_take (i := 31) (oi := ?_) (v := ?_) ?hiu193 (by as_aux_lemma => kernel_rfl) (by as_aux_lemma => kernel_rfl) (by as_aux_lemma => kernel_rfl) ?hQu193 (Or.inl ⟨?hwu193, ?hyu193⟩) hHeld ?restu193
  case hiu193 => simp only [List.getElem?_toArray, List.getElem?_cons_zero, List.getElem?_cons_succ]; rfl
  case hwu193 => rfl
  case hyu193 => (intro w9 hSw; (try dsimp only at hSw); go_simp; (try with_reducible rfl))
  case hQu193 => exact fun _ _ _ h => h
  (try simp only [Act.put, List.setIfInBounds_toArray, List.set_cons_zero, List.set_cons_succ])
  refine wpAnyH_take (i := 32) (oi := ?_) (v := ?_) ?hiu194 (by as_aux_lemma => kernel_rfl) (by as_aux_lemma => kernel_rfl) (by as_aux_lemma => kernel_rfl) ?hQu194 (Or.inl ⟨?hwu194, ?hyu194⟩) hHeld ?restu194
  case hiu194 => simp only [List.getElem?_toArray, List.getElem?_cons_zero, List.getElem?_cons_succ]; rfl
  case hwu194 => rfl
  case hyu194 => (intro w9 hSw; (try dsimp only at hSw); go_simp; (try with_reducible rfl))
  case hQu194 => exact fun _ _ _ h => h
  (try simp only [Act.put, List.setIfInBounds_toArray, List.set_cons_zero, List.set_cons_succ])
  refine wpAnyH_take (i := 33) (oi := ?_) (v := ?_) ?hiu195 (by as_aux_lemma => kernel_rfl) (by as_aux_lemma => kernel_rfl) (by as_aux_lemma => kernel_rfl) ?hQu195 (Or.inl ⟨?hwu195, ?hyu195⟩) hHeld ?restu195
  case hiu195 => simp only [List.getElem?_toArray, List.getElem?_cons_zero, List.getElem?_cons_succ]; rfl
  case hwu195 => rfl
  case hyu195 => (intro w9 hSw; (try dsimp only at hSw); go_simp; (try with_reducible rfl))
  case hQu195 => exact fun _ _ _ h => h
  (try simp only [Act.put, List.setIfInBounds_toArray, List.set_cons_zero, List.set_cons_succ])
  refine wpAnyH_take (i := 34) (oi := ?_) (v := ?_) ?hiu196 (by as_aux_lemma => kernel_rfl) (by as_aux_lemma => kernel_rfl) (by as_aux_lemma => kernel_rfl) ?hQu196 (Or.inl ⟨?hwu196, ?hyu196⟩) hHeld ?restu196
  case hiu196 => simp only [List.getElem?_toArray, List.getElem?_cons_zero, List.getElem?_cons_succ]; rfl
  case hwu196 => rfl
  case hyu196 => (intro w9 hSw; (try dsimp only at hSw); go_simp; (try with_reducible rfl))
  case hQu196 => exact fun _ _ _ h => h
  (try simp only [Act.put, List.setIfInBounds_toArray, List.set_cons_zero, List.set_cons_succ])
  refine wpAnyH_take (i := 35) (oi := ?_) (v := ?_) ?hiu197 (by as_aux_lemma => kernel_rfl) (by as_aux_lemma => kernel_rfl) (by as_aux_lemma => kernel_rfl) ?hQu197 (Or.inl ⟨?hwu197, ?hyu197⟩) hHeld ?restu197
  case hiu197 => simp only [List.getElem?_toArray, List.getElem?_cons_zero, List.getElem?_cons_succ]; rfl
  case hwu197 => rfl
  case hyu197 => (intro w9 hSw; (try dsimp only at hSw); go_simp; (try with_reducible rfl))
  case hQu197 => exact fun _ _ _ h => h
  (try simp only [Act.put, List.setIfInBounds_toArray, List.set_cons_zero, List.set_cons_succ])
  refine wpAnyH_take (i := 36) (oi := ?_) (v := ?_) ?hiu198 (by as_aux_lemma => kernel_rfl) (by as_aux_lemma => kernel_rfl) (by as_aux_lemma => kernel_rfl) ?hQu198 (Or.inl ⟨?hwu198, ?hyu198⟩) hHeld ?restu198
  case hiu198 => simp only [List.getElem?_toArray, List.getElem?_cons_zero, List.getElem?_cons_succ]; rfl
  case hwu198 => rfl
  case hyu198 => (intro w9 hSw; (try dsimp only at hSw); go_simp; (try with_reducible rfl))
  case hQu198 => exact fun _ _ _ h => h
  (try simp only [Act.put, List.setIfInBounds_toArray, List.set_cons_zero, List.set_cons_succ])
  refine wpAnyH_take (i := 37) (oi := ?_) (v := ?_) ?hiu199 (by as_aux_lemma => kernel_rfl) (by as_aux_lemma => kernel_rfl) (by as_aux_lemma => kernel_rfl) ?hQu199 (Or.inl ⟨?hwu199, ?hyu199⟩) hHeld ?restu199
  case hiu199 => simp only [List.getElem?_toArray, List.getElem?_cons_zero, List.getElem?_cons_succ]; rfl
  case hwu199 => rfl
  case hyu199 => (intro w9 hSw; (try dsimp only at hSw); go_simp; (try with_reducible rfl))
  case hQu199 => exact fun _ _ _ h => h
  (try simp only [Act.put, List.setIfInBounds_toArray, List.set_cons_zero, List.set_cons_succ])
  refine wpAnyH_take (i := 38) (oi := ?_) (v := ?_) ?hiu200 (by as_aux_lemma => kernel_rfl) (by as_aux_lemma => kernel_rfl) (by as_aux_lemma => kernel_rfl) ?hQu200 (Or.inl ⟨?hwu200, ?hyu200⟩) hHeld ?restu200
  case hiu200 => simp only [List.getElem?_toArray, List.getElem?_cons_zero, List.getElem?_cons_succ]; rfl
  case hwu200 => rfl
  case hyu200 => (intro w9 hSw; (try dsimp only at hSw); go_simp; (try with_reducible rfl))
  case hQu200 => exact fun _ _ _ h => h
  (try simp only [Act.put, List.setIfInBounds_toArray, List.set_cons_zero, List.set_cons_succ])
  refine wpAnyH_take (i := 39) (oi := ?_) (v := ?_) ?hiu201 (by as_aux_lemma => kernel_rfl) (by as_aux_lemma => kernel_rfl) (by as_aux_lemma => kernel_rfl) ?hQu201 (Or.inl ⟨?hwu201, ?hyu201⟩) hHeld ?restu201
  case hiu201 => simp only [List.getElem?_toArray, List.getElem?_cons_zero, List.getElem?_cons_succ]; rfl
  case hwu201 => rfl
  case hyu201 => (intro w9 hSw; (try dsimp only at hSw); go_simp; (try with_reducible rfl))
  case hQu201 => exact fun _ _ _ h => h
  (try simp only [Act.put, List.setIfInBounds_toArray, List.set_cons_zero, List.set_cons_succ])
  refine wpAnyH_take (i := 40) (oi := ?_) (v := ?_) ?hiu202 (by as_aux_lemma => kernel_rfl) (by as_aux_lemma => kernel_rfl) (by as_aux_lemma => kernel_rfl) ?hQu202 (Or.inl ⟨?hwu202, ?hyu202⟩) hHeld ?restu202
  case hiu202 => simp only [List.getElem?_toArray, List.getElem?_cons_zero, List.getElem?_cons_succ]; rfl
  case hwu202 => rfl
  case hyu202 => (intro w9 hSw; (try dsimp only at hSw); go_simp; (try with_reducible rfl))
  case hQu202 => exact fun _ _ _ h => h
  (try simp only [Act.put, List.setIfInBounds_toArray, List.set_cons_zero, List.set_cons_succ])
  refine wpAnyH_take (i := 41) (oi := ?_) (v := ?_) ?hiu203 (by as_aux_lemma => kernel_rfl) (by as_aux_lemma => kernel_rfl) (by as_aux_lemma => kernel_rfl) ?hQu203 (Or.inl ⟨?hwu203, ?hyu203⟩) hHeld ?restu203
  case hiu203 => simp only [List.getElem?_toArray, List.getElem?_cons_zero, List.getElem?_cons_succ]; rfl
  case hwu203 => rfl
  case hyu203 => (intro w9 hSw; (try dsimp only at hSw); go_simp; (try with_reducible rfl))
  case hQu203 => exact fun _ _ _ h => h
  (try simp only [Act.put, List.setIfInBounds_toArray, List.set_cons_zero, List.set_cons_succ])
  refine wpAnyH_take (i := 42) (oi := ?_) (v := ?_) ?hiu204 (by as_aux_lemma => kernel_rfl) (by as_aux_lemma => kernel_rfl) (by as_aux_lemma => kernel_rfl) ?hQu204 (Or.inl ⟨?hwu204, ?hyu204⟩) hHeld ?restu204
  case hiu204 => simp only [List.getElem?_toArray, List.getElem?_cons_zero, List.getElem?_cons_succ]; rfl
  case hwu204 => rfl
  case hyu204 => (intro w9 hSw; (try dsimp only at hSw); go_simp; (try with_reducible rfl))
  case hQu204 => exact fun _ _ _ h => h
  (try simp only [Act.put, List.setIfInBounds_toArray, List.set_cons_zero, List.set_cons_succ])
  refine wpAnyH_take (i := 43) (oi := ?_) (v := ?_) ?hiu205 (by as_aux_lemma => kernel_rfl) (by as_aux_lemma => kernel_rfl) (by as_aux_lemma => kernel_rfl) ?hQu205 (Or.inl ⟨?hwu205, ?hyu205⟩) hHeld ?restu205
  case hiu205 => simp only [List.getElem?_toArray, List.getElem?_cons_zero, List.getElem?_cons_succ]; rfl
  case hwu205 => rfl
  case hyu205 => (intro w9 hSw; (try dsimp only at hSw); go_simp; (try with_reducible rfl))
  case hQu205 => exact fun _ _ _ h => h
  (try simp only [Act.put, List.setIfInBounds_toArray, List.set_cons_zero, List.set_cons_succ])
  refine wpAnyH_take (i := 44) (oi := ?_) (v := ?_) ?hiu206 (by as_aux_lemma => kernel_rfl) (by as_aux_lemma => kernel_rfl) (by as_aux_lemma => kernel_rfl) ?hQu206 (Or.inl ⟨?hwu206, ?hyu206⟩) hHeld ?restu206
  case hiu206 => simp only [List.getElem?_toArray, List.getElem?_cons_zero, List.getElem?_cons_succ]; rfl
  case hwu206 => rfl
  case hyu206 => (intro w9 hSw; (try dsimp only at hSw); go_simp; (try with_reducible rfl))
  case hQu206 => exact fun _ _ _ h => h
  (try simp only [Act.put, List.setIfInBounds_toArray, List.set_cons_zero, List.set_cons_succ])
  refine wpAnyH_take (i := 45) (oi := ?_) (v := ?_) ?hiu207 (by as_aux_lemma => kernel_rfl) (by as_aux_lemma => kernel_rfl) (by as_aux_lemma => kernel_rfl) ?hQu207 (Or.inl ⟨?hwu207, ?hyu207⟩) hHeld ?restu207
  case hiu207 => simp only [List.getElem?_toArray, List.getElem?_cons_zero, List.getElem?_cons_succ]; rfl
  case hwu207 => rfl
  case hyu207 => (intro w9 hSw; (try dsimp only at hSw); go_simp; (try with_reducible rfl))
  case hQu207 => exact fun _ _ _ h => h
  (try simp only [Act.put, List.setIfInBounds_toArray, List.set_cons_zero, List.set_cons_succ])
  refine wpAnyH_take (i := 46) (oi := ?_) (v := ?_) ?hiu208 (by as_aux_lemma => kernel_rfl) (by as_aux_lemma => kernel_rfl) (by as_aux_lemma => kernel_rfl) ?hQu208 (Or.inl ⟨?hwu208, ?hyu208⟩) hHeld ?restu208
  case hiu208 => simp only [List.getElem?_toArray, List.getElem?_cons_zero, List.getElem?_cons_succ]; rfl
  case hwu208 => rfl
  case hyu208 => (intro w9 hSw; (try dsimp only at hSw); go_simp; (try with_reducible rfl))
  case hQu208 => exact fun _ _ _ h => h
  (try simp only [Act.put, List.setIfInBounds_toArray, List.set_cons_zero, List.set_cons_succ])
  refine wpAnyH_ready (rs := [47]) (by as_aux_lemma => kernel_rfl) (by simp) (AllReadyH.cons (o := ?_) ?hiu209 (fun K hK => ?_) AllReadyH.nil)
  case hiu209 => simp only [List.getElem?_toArray, List.getElem?_cons_zero, List.getElem?_cons_succ]; rfl
  rw [if_pos (by rfl)]
  go_wp2_with fail
  refine (suits_any 42 4 3 20 2 1 1 100 30 10 2 10 40 _).mono ?_
  rintro e w13 ⟨he, hb13⟩
  rw [laid_e10] at he
  subst he
  dsimp only
  refine hK.out _ _ ?_ (fun hHeld => ?_)
  · exact ⟨qr_below hHeld.1 hb13, qr_below hHeld.2.1 hb13, hHeld.2.2.below hb13⟩
  clear hK K
  (try simp only [Act.put, List.setIfInBounds_toArray, List.set_cons_zero, List.set_cons_succ])
  refine wpAnyH_take (i := 48) (oi := ?_) (v := ?_) ?hiu210 (by as_aux_lemma => kernel_rfl) (by as_aux_lemma => kernel_rfl) (by as_aux_lemma => kernel_rfl) ?hQu210 (Or.inl ⟨?hwu210, ?hyu210⟩) hHeld ?restu210
  case hiu210 => simp only [List.getElem?_toArray, List.getElem?_cons_zero, List.getElem?_cons_succ]; rfl
  case hwu210 => rfl
  case hyu210 => (intro w9 hSw; (try dsimp only at hSw); go_simp; (try with_reducible rfl))
  case hQu210 => exact fun _ _ _ h => h
  (try simp only [Act.put, List.setIfInBounds_toArray, List.set_cons_zero, List.set_cons_succ])
  refine wpAnyH_take (i := 49) (oi := ?_) (v := ?_) ?hiu211 (by as_aux_lemma => kernel_rfl) (by as_aux_lemma => kernel_rfl) (by as_aux_lemma => kernel_rfl) ?hQu211 (Or.inl ⟨?hwu211, ?hyu211⟩) hHeld ?restu211
  case hiu211 => simp only [List.getElem?_toArray, List.getElem?_cons_zero, List.getElem?_cons_succ]; rfl
  case hwu211 => rfl
  case hyu211 => (intro w9 hSw; (try dsimp only at hSw); go_simp; (try with_reducible rfl))
  case hQu211 => exact fun _ _ _ h => h
  (try simp only [Act.put, List.setIfInBounds_toArray, List.set_cons_zero, List.set_cons_succ])
  refine wpAnyH_take (i := 50) (oi := ?_) (v := ?_) ?hiu212 (by as_aux_lemma => kernel_rfl) (by as_aux_lemma => kernel_rfl) (by as_aux_lemma => kernel_rfl) ?hQu212 (Or.inl ⟨?hwu212, ?hyu212⟩) hHeld ?restu212
  case hiu212 => simp only [List.getElem?_toArray, List.getElem?_cons_zero, List.getElem?_cons_succ]; rfl
  case hwu212 => rfl
  case hyu212 => (intro w9 hSw; (try dsimp only at hSw); go_simp; (try with_reducible rfl))
  case hQu212 => exact fun _ _ _ h => h
  (try simp only [Act.put, List.setIfInBounds_toArray, List.set_cons_zero, List.set_cons_succ])
  refine wpAnyH_take (i := 51) (oi := ?_) (v := ?_) ?hiu213 (by as_aux_lemma => kernel_rfl) (by as_aux_lemma => kernel_rfl) (by as_aux_lemma => kernel_rfl) ?hQu213 (Or.inl ⟨?hwu213, ?hyu213⟩) hHeld ?restu213
  case hiu213 => simp only [List.getElem?_toArray, List.getElem?_cons_zero, List.getElem?_cons_succ]; rfl
  case hwu213 => rfl
  case hyu213 => (intro w9 hSw; (try dsimp only at hSw); go_simp; (try with_reducible rfl))
  case hQu213 => exact fun _ _ _ h => h
  (try simp only [Act.put, List.setIfInBounds_toArray, List.set_cons_zero, List.set_cons_succ])
  refine wpAnyH_take (i := 52) (oi := ?_) (v := ?_) ?hiu214 (by as_aux_lemma => kernel_rfl) (by as_aux_lemma => kernel_rfl) (by as_aux_lemma => kernel_rfl) ?hQu214 (Or.inl ⟨?hwu214, ?hyu214⟩) hHeld ?restu214
  case hiu214 => simp only [List.getElem?_toArray, List.getElem?_cons_zero, List.getElem?_cons_succ]; rfl
  case hwu214 => rfl
  case hyu214 => (intro w9 hSw; (try dsimp only at hSw); go_simp; (try with_reducible rfl))
  case hQu214 => exact fun _ _ _ h => h
  (try simp only [Act.put, List.setIfInBounds_toArray, List.set_cons_zero, List.set_cons_succ])
  refine wpAnyH_take (i := 53) (oi := ?_) (v := ?_) ?hiu215 (by as_aux_lemma => kernel_rfl) (by as_aux_lemma => kernel_rfl) (by as_aux_lemma => kernel_rfl) ?hQu215 (Or.inl ⟨?hwu215, ?hyu215⟩) hHeld ?restu215
  case hiu215 => simp only [List.getElem?_toArray, List.getElem?_cons_zero, List.getElem?_cons_succ]; rfl
  case hwu215 => rfl
  case hyu215 => (intro w9 hSw; (try dsimp only at hSw); go_simp; (try with_reducible rfl))
  case hQu215 => exact fun _ _ _ h => h
  (try simp only [Act.put, List.setIfInBounds_toArray, List.set_cons_zero, List.set_cons_succ])
  refine wpAnyH_ready (rs := [54]) (by as_aux_lemma => kernel_rfl) (by simp) (AllReadyH.cons (o := ?_) ?hiu216 (fun K hK => ?_) AllReadyH.nil)
  case hiu216 => simp only [List.getElem?_toArray, List.getElem?_cons_zero, List.getElem?_cons_succ]; rfl
  rw [if_pos (by rfl)]
  go_wp2_with fail
  refine (suits_any 42 4 3 20 2 1 1 100 30 10 2 11 4 _).mono ?_
  rintro e w14 ⟨he, hb14⟩
  rw [laid_e11] at he
  subst he
  dsimp only
  refine hK.out _ _ ?_ (fun hHeld => ?_)
  · exact ⟨qr_below hHeld.1 hb14, qr_below hHeld.2.1 hb14, hHeld.2.2.below hb14⟩
  clear hK K
  (try simp only [Act.put, List.setIfInBounds_toArray, List.set_cons_zero, List.set_cons_succ])
  refine wpAnyH_take (i := 55) (oi := ?_) (v := ?_) ?hiu217 (by as_aux_lemma => kernel_rfl) (by as_aux_lemma => kernel_rfl) (by as_aux_lemma => kernel_rfl) ?hQu217 (Or.inl ⟨?hwu217, ?hyu217⟩) hHeld ?restu217
  case hiu217 => simp only [List.getElem?_toArray, List.getElem?_cons_zero, List.getElem?_cons_succ]; rfl
  case hwu217 => rfl
  case hyu217 => (intro w9 hSw; (try dsimp only at hSw); go_simp; (try with_reducible rfl))
  case hQu217 => exact fun _ _ _ h => h
  (try simp only [Act.put, List.setIfInBounds_toArray, List.set_cons_zero, List.set_cons_succ])
  refine wpAnyH_take (i := 56) (oi := ?_) (v := ?_) ?hiu218 (by as_aux_lemma => kernel_rfl) (by as_aux_lemma => kernel_rfl) (by as_aux_lemma => kernel_rfl) ?hQu218 (Or.inl ⟨?hwu218, ?hyu218⟩) hHeld ?restu218
  case hiu218 => simp only [List.getElem?_toArray, List.getElem?_cons_zero, List.getElem?_cons_succ]; rfl
  case hwu218 => rfl
  case hyu218 => (intro w9 hSw; (try dsimp only at hSw); go_simp; (try with_reducible rfl))
  case hQu218 => exact fun _ _ _ h => h
  (try simp only [Act.put, List.setIfInBounds_toArray, List.set_cons_zero, List.set_cons_succ])
  refine wpAnyH_take (i := 57) (oi := ?_) (v := ?_) ?hiu219 (by as_aux_lemma => kernel_rfl) (by as_aux_lemma => kernel_rfl) (by as_aux_lemma => kernel_rfl) ?hQu219 (Or.inl ⟨?hwu219, ?hyu219⟩) hHeld ?restu219
  case hiu219 => simp only [List.getElem?_toArray, List.getElem?_cons_zero, List.getElem?_cons_succ]; rfl
  case hwu219 => rfl
  case hyu219 => (intro w9 hSw; (try dsimp only at hSw); go_simp; (try with_reducible rfl))
  case hQu219 => exact fun _ _ _ h => h
  (try simp only [Act.put, List.setIfInBounds_toArray, List.set_cons_zero, List.set_cons_succ])
  refine wpAnyH_done (by kernel_rfl) ?_ _
  have HBE := Lib.hid (bT HB10.out hHeld.1.2)
  clear hHeld
  go_wp2
  go_ret
  exact ⟨rfl, HBE.out⟩
end Go.Proofs.Ythejnlelegcgfaa
