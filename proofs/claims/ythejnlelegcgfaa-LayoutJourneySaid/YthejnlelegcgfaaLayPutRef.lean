/- Layer 13's reference of Put: what it computes. No condition. -/
import Derived.Test.YthejnlelegcgfaaLayPut
import Derived.Test.YthejnlelegcgfaaTickRef
namespace Go.Proofs.Ythejnlelegcgfaa
open Go.RowKit
set_option linter.unusedVariables false
set_option linter.unusedSimpArgs false

theorem layV_le (k : Int) (c : List Int) (hv : ∀ x ∈ c, x ≤ 9223372036854775807) : ∀ x ∈ layV k c, x ≤ 9223372036854775807 := by
  intro x hx
  obtain ⟨y, _, rfl⟩ := List.mem_map.1 hx
  by_cases hy : y.1 < c.length
  · exact hv _ (getD_mem hy)
  · rw [List.getD_eq_getElem?_getD, List.getElem?_eq_none (by omega)]; simp
theorem layV_len (k : Int) (c : List Int) : (layV k c).length ≤ 13 := by unfold layV; rw [List.length_map]; exact fl_le k
theorem layV4 (a0 a1 a2 a3 a4 a5 a6 a7 a8 a9 a10 a11 a12 a13 a14 : Int) (h : a1 = 4) : layV a1 [a0, a1, a2, a3, a4, a5, a6, a7, a8, a9, a10, a11, a12, a13, a14] = [a1, a0, a4, a5, a7, a8, a10, a2, a3, a9] ++ [a12, a13, a11] := by subst h; rfl
theorem layV0 (a0 a1 a2 a3 a4 a5 a6 a7 a8 a9 a10 a11 a12 a13 a14 : Int) (h1 : ¬ a1 < 1) (h2 : ¬ 4 < a1) (h : ¬ a1 = 4) : layV a1 [a0, a1, a2, a3, a4, a5, a6, a7, a8, a9, a10, a11, a12, a13, a14] = [a1, a0, a4, a5, a7, a8, a10, a2, a3] ++ [a12, a13, a11] := by
  have hk : a1 = 1 ∨ a1 = 2 ∨ a1 = 3 := by omega
  rcases hk with rfl | rfl | rfl <;> rfl

set_option maxHeartbeats 8000000 in
set_option maxRecDepth 100000 in
theorem refLayPut_full (a0 a1 a2 a3 a4 a5 a6 a7 a8 a9 a10 a11 a12 a13 a14 : Int) (w : World) (hv : ∀ x ∈ [a0, a1, a2, a3, a4, a5, a6, a7, a8, a9, a10, a11, a12, a13, a14], x ≤ 9223372036854775807)
    (hT : tkB a0 a1 a2 a3 a4 a5 a6 a7 a8 a9 a10 = true) (hS : suB a9 a12 a13 = true) (d1 : decide (a11 < 0) = false) (d2 : decide (99 < a11) = false) (d3 : (a14 != 0) = false) (d4 : (a6 != 0) = false) (d5 : decide (9999999 < a0) = false) :
    Calls Try.prog 46 #[.agg #[.int .i64 a0, .int .i64 a1, .int .i64 a2, .int .i64 a3, .int .i64 a4, .int .i64 a5, .int .i64 a6, .int .i64 a7, .int .i64 a8, .int .i64 a9, .int .i64 a10, .int .i64 a11, .int .i64 a12, .int .i64 a13, .int .i64 a14]] w (LayRet (joinR (layV a1 [a0, a1, a2, a3, a4, a5, a6, a7, a8, a9, a10, a11, a12, a13, a14]) (wsL a1)) w) := by
  obtain ⟨i0, hi, hz0, hz1, hz2⟩ := info_parts infoI64
  obtain ⟨hk1, hk2⟩ := tk_kind hT
  by_cases h4 : a1 = 4
  · have HV := Lib.hid (layV4 a0 a1 a2 a3 a4 a5 a6 a7 a8 a9 a10 a11 a12 a13 a14 h4)
    have d6 : (a1 == 4) = true := by simpa using h4
    clear h4
    have hoL : ∀ w2 : World, (w2.alloc (.cells #[.int .i64 a1, .int .i64 a0, .int .i64 a4, .int .i64 a5, .int .i64 a7, .int .i64 a8, .int .i64 a10, .int .i64 a2, .int .i64 a3] 3)).ownsRow w2.heap.size 3 1 (.slice (some ⟨w2.heap.size, 0, none⟩) 9 9) [a1, a0, a4, a5, a7, a8, a10, a2, a3].length ([a1, a0, a4, a5, a7, a8, a10, a2, a3].map (.int .i64)) := fun w2 => own_litL w2 [a1, a0, a4, a5, a7, a8, a10, a2, a3] _ (maxLen_ge (by simp))
    go_enter Try.func46, Try.ntmps46
    go_wp2_with (first | (go_at_call 57; (with_reducible refine (refIs_any _ _ _ _ _ _ _ _ _ _ _ _).mono ?_); rintro e w1 ⟨rfl, hb1⟩; obtain ⟨hc1, hf1⟩ := bcell hb1; have hx1 : w.heap.size + 1 < w1.heap.size := (by have := hb1.size; simp at this; omega); have hy1 : w.heap.size < w1.heap.size := (by omega); have HB1 := Lib.hid (bT (bA (bel1 w _) _) hb1); clear hb1) | (go_at_call 51; (with_reducible refine (refSuits_any a0 a1 a2 a3 a4 a5 a6 a7 a8 a9 a10 a12 a13 _).mono ?_); rintro e w2 ⟨rfl, hb2⟩; obtain ⟨hc2, hf2⟩ := bcell hb2; have hx2 : w.heap.size + 1 < w2.heap.size := (by have := hb2.size; omega); have hy2 : w.heap.size < w2.heap.size := (by omega); have HB2 := Lib.hid (bT HB1.out hb2); clear hb2) | (at_builtin; refine wpL_app (k := .i64) rfl _ _ 36 rfl w2.heap.size 3 i0 (.int .i64 0) 8 Try.underlying36 hi hz0 hz1 hz2 rfl _ [a1, a0, a4, a5, a7, a8, a10, a2, a3] rfl ((hoL _).alloc _) _ _ [a9] rfl (RdI.lit' (l := [a9]) (by simp)) ?_ ?_ ?_ ?_; (focus (simp only [List.length_append, List.length_cons, List.length_nil]; exact maxLen_ge (by omega))); (focus (simp only [List.length_append, List.length_cons, List.length_nil]; omega)); (focus (simp; omega)); intro v5 w5 ho5 hg5 _; have hb5 := bG (bA (bA (bR w2) _) _) hg5 (own_ge (hoL w2)); have hle5 : w2.heap.size ≤ w5.heap.size := hb5.size; obtain ⟨hc5, hf5⟩ := bcell hb5; have hz5 : w.heap.size < w5.heap.size := (by have := hb5.size; omega); have hy5 : w.heap.size + 1 < w5.heap.size := (by have := hb5.size; omega); have HB5 := Lib.hid (bT HB2.out hb5)) | (at_builtin; refine wpL_app (k := .i64) rfl _ _ 36 rfl w2.heap.size 3 i0 (.int .i64 0) 8 Try.underlying36 hi hz0 hz1 hz2 rfl _ ([a1, a0, a4, a5, a7, a8, a10, a2, a3] ++ [a9]) rfl (ho5.alloc _) _ _ [a12, a13, a11] rfl (RdI.lit' (l := [a12, a13, a11]) (by simp)) ?_ ?_ ?_ ?_; (focus (simp only [List.length_append, List.length_cons, List.length_nil]; exact maxLen_ge (by omega))); (focus (simp only [List.length_append, List.length_cons, List.length_nil]; omega)); (focus (simp; omega)); intro v6 w6 ho6 hg6 _; have hb6 := bG (bA hb5 _) hg6 (own_ge ho5); have hle6 : w2.heap.size ≤ w6.heap.size := hb6.size; obtain ⟨hc6, hf6⟩ := bcell hb6; have hz6 : w.heap.size < w6.heap.size := (by have := hb6.size; omega); have hy6 : w.heap.size + 1 < w6.heap.size := (by have := hb6.size; omega); have HB6 := Lib.hid (bT HB2.out hb6)))
    have ho7 : w6.ownsRow w2.heap.size 3 1 v6 (layV a1 [a0, a1, a2, a3, a4, a5, a6, a7, a8, a9, a10, a11, a12, a13, a14]).length ((layV a1 [a0, a1, a2, a3, a4, a5, a6, a7, a8, a9, a10, a11, a12, a13, a14]).map (.int .i64)) := by rw [HV.out]; exact ho6
    have hva := layV_le a1 _ hv
    have hal := layV_len a1 [a0, a1, a2, a3, a4, a5, a6, a7, a8, a9, a10, a11, a12, a13, a14]
    obtain ⟨acc, hacc⟩ : ∃ acc, layV a1 [a0, a1, a2, a3, a4, a5, a6, a7, a8, a9, a10, a11, a12, a13, a14] = acc := ⟨_, rfl⟩
    rw [hacc] at ho7 hva hal
    have HACC := Lib.hid hacc
    have HB6' := Lib.hid HB6.out
    obtain ⟨aA, ac, rfl, _, _⟩ := own_slice ho7
    have ar := RdI.of_own ho7
    clear ho6 ho7 hacc hg6
    refine (refWidths_any a1 _).mono ?_
    rintro e w7 ⟨u, rfl, uo, hb7⟩
    obtain ⟨uA, uc, rfl, _, _⟩ := own_slice uo
    have ur := RdI.of_own uo
    replace ar := ar.below hb7
    have HB7 := Lib.hid (bT HB6.out hb7)
    clear uo hb7
    go_wp2_with fail
    refine (refJoin_any _ _ _ _ acc (wsL a1) _ ar ur (by omega) (by have := wsL_le a1; omega) hva).mono ?_
    rintro e w8 ⟨z, rfl, zo, hb8⟩
    obtain ⟨zA, zc, rfl, _, _⟩ := own_slice zo
    have HO8 := Lib.hid zo
    have HB8 := Lib.hid (bT HB7.out hb8)
    clear zo hb8
    go_wp2
    go_ret2
    rw [HACC.out]
    exact ⟨.slice zA (joinR acc (wsL a1)).1.length zc, rfl, own_base HO8.out HB7.out.size, HB8.out⟩
  · have HV := Lib.hid (layV0 a0 a1 a2 a3 a4 a5 a6 a7 a8 a9 a10 a11 a12 a13 a14 hk1 hk2 h4)
    have d6 : (a1 == 4) = false := by simpa using h4
    clear h4
    have hoL : ∀ w2 : World, (w2.alloc (.cells #[.int .i64 a1, .int .i64 a0, .int .i64 a4, .int .i64 a5, .int .i64 a7, .int .i64 a8, .int .i64 a10, .int .i64 a2, .int .i64 a3] 3)).ownsRow w2.heap.size 3 1 (.slice (some ⟨w2.heap.size, 0, none⟩) 9 9) [a1, a0, a4, a5, a7, a8, a10, a2, a3].length ([a1, a0, a4, a5, a7, a8, a10, a2, a3].map (.int .i64)) := fun w2 => own_litL w2 [a1, a0, a4, a5, a7, a8, a10, a2, a3] _ (maxLen_ge (by simp))
    go_enter Try.func46, Try.ntmps46
    go_wp2_with (first | (go_at_call 57; (with_reducible refine (refIs_any _ _ _ _ _ _ _ _ _ _ _ _).mono ?_); rintro e w1 ⟨rfl, hb1⟩; obtain ⟨hc1, hf1⟩ := bcell hb1; have hx1 : w.heap.size + 1 < w1.heap.size := (by have := hb1.size; simp at this; omega); have hy1 : w.heap.size < w1.heap.size := (by omega); have HB1 := Lib.hid (bT (bA (bel1 w _) _) hb1); clear hb1) | (go_at_call 51; (with_reducible refine (refSuits_any a0 a1 a2 a3 a4 a5 a6 a7 a8 a9 a10 a12 a13 _).mono ?_); rintro e w2 ⟨rfl, hb2⟩; obtain ⟨hc2, hf2⟩ := bcell hb2; have hx2 : w.heap.size + 1 < w2.heap.size := (by have := hb2.size; omega); have hy2 : w.heap.size < w2.heap.size := (by omega); have HB2 := Lib.hid (bT HB1.out hb2); clear hb2) | (at_builtin; refine wpL_app (k := .i64) rfl _ _ 36 rfl w2.heap.size 3 i0 (.int .i64 0) 8 Try.underlying36 hi hz0 hz1 hz2 rfl _ [a1, a0, a4, a5, a7, a8, a10, a2, a3] rfl ((hoL _).alloc _) _ _ [a12, a13, a11] rfl (RdI.lit' (l := [a12, a13, a11]) (by simp)) ?_ ?_ ?_ ?_; (focus (simp only [List.length_append, List.length_cons, List.length_nil]; exact maxLen_ge (by omega))); (focus (simp only [List.length_append, List.length_cons, List.length_nil]; omega)); (focus (simp; omega)); intro v6 w6 ho6 hg6 _; have hb6 := bG (bA (bA (bR w2) _) _) hg6 (own_ge (hoL w2)); have hle6 : w2.heap.size ≤ w6.heap.size := hb6.size; obtain ⟨hc6, hf6⟩ := bcell hb6; have hz6 : w.heap.size < w6.heap.size := (by have := hb6.size; omega); have hy6 : w.heap.size + 1 < w6.heap.size := (by have := hb6.size; omega); have HB6 := Lib.hid (bT HB2.out hb6)))
    have ho7 : w6.ownsRow w2.heap.size 3 1 v6 (layV a1 [a0, a1, a2, a3, a4, a5, a6, a7, a8, a9, a10, a11, a12, a13, a14]).length ((layV a1 [a0, a1, a2, a3, a4, a5, a6, a7, a8, a9, a10, a11, a12, a13, a14]).map (.int .i64)) := by rw [HV.out]; exact ho6
    have hva := layV_le a1 _ hv
    have hal := layV_len a1 [a0, a1, a2, a3, a4, a5, a6, a7, a8, a9, a10, a11, a12, a13, a14]
    obtain ⟨acc, hacc⟩ : ∃ acc, layV a1 [a0, a1, a2, a3, a4, a5, a6, a7, a8, a9, a10, a11, a12, a13, a14] = acc := ⟨_, rfl⟩
    rw [hacc] at ho7 hva hal
    have HACC := Lib.hid hacc
    have HB6' := Lib.hid HB6.out
    obtain ⟨aA, ac, rfl, _, _⟩ := own_slice ho7
    have ar := RdI.of_own ho7
    clear ho6 ho7 hacc hg6
    refine (refWidths_any a1 _).mono ?_
    rintro e w7 ⟨u, rfl, uo, hb7⟩
    obtain ⟨uA, uc, rfl, _, _⟩ := own_slice uo
    have ur := RdI.of_own uo
    replace ar := ar.below hb7
    have HB7 := Lib.hid (bT HB6.out hb7)
    clear uo hb7
    go_wp2_with fail
    refine (refJoin_any _ _ _ _ acc (wsL a1) _ ar ur (by omega) (by have := wsL_le a1; omega) hva).mono ?_
    rintro e w8 ⟨z, rfl, zo, hb8⟩
    obtain ⟨zA, zc, rfl, _, _⟩ := own_slice zo
    have HO8 := Lib.hid zo
    have HB8 := Lib.hid (bT HB7.out hb8)
    clear zo hb8
    go_wp2
    go_ret2
    rw [HACC.out]
    exact ⟨.slice zA (joinR acc (wsL a1)).1.length zc, rfl, own_base HO8.out HB7.out.size, HB8.out⟩

set_option maxHeartbeats 8000000 in
set_option maxRecDepth 100000 in
theorem refLayPut_any (a0 a1 a2 a3 a4 a5 a6 a7 a8 a9 a10 a11 a12 a13 a14 : Int) (w : World) (hv : ∀ x ∈ [a0, a1, a2, a3, a4, a5, a6, a7, a8, a9, a10, a11, a12, a13, a14], x ≤ 9223372036854775807) :
    Calls Try.prog 46 #[.agg #[.int .i64 a0, .int .i64 a1, .int .i64 a2, .int .i64 a3, .int .i64 a4, .int .i64 a5, .int .i64 a6, .int .i64 a7, .int .i64 a8, .int .i64 a9, .int .i64 a10, .int .i64 a11, .int .i64 a12, .int .i64 a13, .int .i64 a14]] w (LayRet (layR (tkB a0 a1 a2 a3 a4 a5 a6 a7 a8 a9 a10) [a0, a1, a2, a3, a4, a5, a6, a7, a8, a9, a10, a11, a12, a13, a14]) w) := by
  cases hT : tkB a0 a1 a2 a3 a4 a5 a6 a7 a8 a9 a10 with
  | false =>
    have E := Lib.hid (show layR false [a0, a1, a2, a3, a4, a5, a6, a7, a8, a9, a10, a11, a12, a13, a14] = ([], 1) by unfold layR; rw [if_pos (by simp)])
    go_enter Try.func46, Try.ntmps46
    go_wp2_with (first | (go_at_call 57; (with_reducible refine (refIs_any _ _ _ _ _ _ _ _ _ _ _ _).mono ?_); rintro e w1 ⟨rfl, hb1⟩; obtain ⟨hc1, hf1⟩ := bcell hb1; have hz1 : w.heap.size + 1 < w1.heap.size := (by have := hb1.size; simp at this; omega); have hy1 : w.heap.size < w1.heap.size := (by omega); have HB1 := Lib.hid (bT (bA (bel1 w _) _) hb1); clear hb1) | (go_at_call 51; (with_reducible refine (refSuits_any a0 a1 a2 a3 a4 a5 a6 a7 a8 a9 a10 a12 a13 _).mono ?_); rintro e w2 ⟨rfl, hb2⟩; obtain ⟨hc2, hf2⟩ := bcell hb2; have hz2 : w.heap.size + 1 < w2.heap.size := (by have := hb2.size; omega); have hy2 : w.heap.size < w2.heap.size := (by omega); have HB2 := Lib.hid (bT HB1.out hb2); clear hb2))
    go_ret2
    exact ⟨_, by rw [E.out] <;> rfl, by rw [E.out]; exact World.ownsRow_nil _ _ _ _, HB1.out⟩
  | true =>
  cases hS : suB a9 a12 a13 with
  | false =>
    have E := Lib.hid (show layR true [a0, a1, a2, a3, a4, a5, a6, a7, a8, a9, a10, a11, a12, a13, a14] = ([], 1) by unfold layR; rw [if_pos (by simp [hS])])
    go_enter Try.func46, Try.ntmps46
    go_wp2_with (first | (go_at_call 57; (with_reducible refine (refIs_any _ _ _ _ _ _ _ _ _ _ _ _).mono ?_); rintro e w1 ⟨rfl, hb1⟩; obtain ⟨hc1, hf1⟩ := bcell hb1; have hz1 : w.heap.size + 1 < w1.heap.size := (by have := hb1.size; simp at this; omega); have hy1 : w.heap.size < w1.heap.size := (by omega); have HB1 := Lib.hid (bT (bA (bel1 w _) _) hb1); clear hb1) | (go_at_call 51; (with_reducible refine (refSuits_any a0 a1 a2 a3 a4 a5 a6 a7 a8 a9 a10 a12 a13 _).mono ?_); rintro e w2 ⟨rfl, hb2⟩; obtain ⟨hc2, hf2⟩ := bcell hb2; have hz2 : w.heap.size + 1 < w2.heap.size := (by have := hb2.size; omega); have hy2 : w.heap.size < w2.heap.size := (by omega); have HB2 := Lib.hid (bT HB1.out hb2); clear hb2))
    go_ret2
    exact ⟨_, by rw [E.out] <;> rfl, by rw [E.out]; exact World.ownsRow_nil _ _ _ _, HB2.out⟩
  | true =>
  by_cases h1 : a11 < 0
  · have E := Lib.hid (show layR true [a0, a1, a2, a3, a4, a5, a6, a7, a8, a9, a10, a11, a12, a13, a14] = ([], 1) by unfold layR; rw [if_pos (by simp [hS]; omega)])
    have d1 : decide (a11 < 0) = true := by simpa using h1
    go_enter Try.func46, Try.ntmps46
    go_wp2_with (first | (go_at_call 57; (with_reducible refine (refIs_any _ _ _ _ _ _ _ _ _ _ _ _).mono ?_); rintro e w1 ⟨rfl, hb1⟩; obtain ⟨hc1, hf1⟩ := bcell hb1; have hz1 : w.heap.size + 1 < w1.heap.size := (by have := hb1.size; simp at this; omega); have hy1 : w.heap.size < w1.heap.size := (by omega); have HB1 := Lib.hid (bT (bA (bel1 w _) _) hb1); clear hb1) | (go_at_call 51; (with_reducible refine (refSuits_any a0 a1 a2 a3 a4 a5 a6 a7 a8 a9 a10 a12 a13 _).mono ?_); rintro e w2 ⟨rfl, hb2⟩; obtain ⟨hc2, hf2⟩ := bcell hb2; have hz2 : w.heap.size + 1 < w2.heap.size := (by have := hb2.size; omega); have hy2 : w.heap.size < w2.heap.size := (by omega); have HB2 := Lib.hid (bT HB1.out hb2); clear hb2))
    go_ret2
    exact ⟨_, by rw [E.out] <;> rfl, by rw [E.out]; exact World.ownsRow_nil _ _ _ _, HB2.out⟩
  have d1 : decide (a11 < 0) = false := by simpa using h1
  by_cases h2 : 100 ≤ a11
  · have E := Lib.hid (show layR true [a0, a1, a2, a3, a4, a5, a6, a7, a8, a9, a10, a11, a12, a13, a14] = ([], 1) by unfold layR; rw [if_pos (by simp [hS]; omega)])
    have d2 : decide (99 < a11) = true := by rw [decide_eq_true_eq]; omega
    go_enter Try.func46, Try.ntmps46
    go_wp2_with (first | (go_at_call 57; (with_reducible refine (refIs_any _ _ _ _ _ _ _ _ _ _ _ _).mono ?_); rintro e w1 ⟨rfl, hb1⟩; obtain ⟨hc1, hf1⟩ := bcell hb1; have hz1 : w.heap.size + 1 < w1.heap.size := (by have := hb1.size; simp at this; omega); have hy1 : w.heap.size < w1.heap.size := (by omega); have HB1 := Lib.hid (bT (bA (bel1 w _) _) hb1); clear hb1) | (go_at_call 51; (with_reducible refine (refSuits_any a0 a1 a2 a3 a4 a5 a6 a7 a8 a9 a10 a12 a13 _).mono ?_); rintro e w2 ⟨rfl, hb2⟩; obtain ⟨hc2, hf2⟩ := bcell hb2; have hz2 : w.heap.size + 1 < w2.heap.size := (by have := hb2.size; omega); have hy2 : w.heap.size < w2.heap.size := (by omega); have HB2 := Lib.hid (bT HB1.out hb2); clear hb2))
    go_ret2
    exact ⟨_, by rw [E.out] <;> rfl, by rw [E.out]; exact World.ownsRow_nil _ _ _ _, HB2.out⟩
  have d2 : decide (99 < a11) = false := by rw [decide_eq_false_iff_not]; omega
  by_cases h3 : a14 = 0
  rotate_left
  · have E := Lib.hid (show layR true [a0, a1, a2, a3, a4, a5, a6, a7, a8, a9, a10, a11, a12, a13, a14] = ([], 1) by unfold layR; rw [if_pos (by simp [hS]; omega)])
    have d3 : (a14 != 0) = true := by simpa using h3
    go_enter Try.func46, Try.ntmps46
    go_wp2_with (first | (go_at_call 57; (with_reducible refine (refIs_any _ _ _ _ _ _ _ _ _ _ _ _).mono ?_); rintro e w1 ⟨rfl, hb1⟩; obtain ⟨hc1, hf1⟩ := bcell hb1; have hz1 : w.heap.size + 1 < w1.heap.size := (by have := hb1.size; simp at this; omega); have hy1 : w.heap.size < w1.heap.size := (by omega); have HB1 := Lib.hid (bT (bA (bel1 w _) _) hb1); clear hb1) | (go_at_call 51; (with_reducible refine (refSuits_any a0 a1 a2 a3 a4 a5 a6 a7 a8 a9 a10 a12 a13 _).mono ?_); rintro e w2 ⟨rfl, hb2⟩; obtain ⟨hc2, hf2⟩ := bcell hb2; have hz2 : w.heap.size + 1 < w2.heap.size := (by have := hb2.size; omega); have hy2 : w.heap.size < w2.heap.size := (by omega); have HB2 := Lib.hid (bT HB1.out hb2); clear hb2))
    go_ret2
    exact ⟨_, by rw [E.out] <;> rfl, by rw [E.out]; exact World.ownsRow_nil _ _ _ _, HB2.out⟩
  have d3 : (a14 != 0) = false := by simpa using h3
  have H3 := Lib.hid h3
  clear h3
  by_cases h4 : a6 = 0
  rotate_left
  · have E := Lib.hid (show layR true [a0, a1, a2, a3, a4, a5, a6, a7, a8, a9, a10, a11, a12, a13, a14] = ([], 18) by unfold layR; have h3 := H3.out; rw [if_neg (by simp [hS]; omega), if_pos (by simp; omega)])
    have d4 : (a6 != 0) = true := by simpa using h4
    go_enter Try.func46, Try.ntmps46
    go_wp2_with (first | (go_at_call 57; (with_reducible refine (refIs_any _ _ _ _ _ _ _ _ _ _ _ _).mono ?_); rintro e w1 ⟨rfl, hb1⟩; obtain ⟨hc1, hf1⟩ := bcell hb1; have hz1 : w.heap.size + 1 < w1.heap.size := (by have := hb1.size; simp at this; omega); have hy1 : w.heap.size < w1.heap.size := (by omega); have HB1 := Lib.hid (bT (bA (bel1 w _) _) hb1); clear hb1) | (go_at_call 51; (with_reducible refine (refSuits_any a0 a1 a2 a3 a4 a5 a6 a7 a8 a9 a10 a12 a13 _).mono ?_); rintro e w2 ⟨rfl, hb2⟩; obtain ⟨hc2, hf2⟩ := bcell hb2; have hz2 : w.heap.size + 1 < w2.heap.size := (by have := hb2.size; omega); have hy2 : w.heap.size < w2.heap.size := (by omega); have HB2 := Lib.hid (bT HB1.out hb2); clear hb2))
    go_ret2
    exact ⟨_, by rw [E.out] <;> rfl, by rw [E.out]; exact World.ownsRow_nil _ _ _ _, HB2.out⟩
  have d4 : (a6 != 0) = false := by simpa using h4
  have H4 := Lib.hid h4
  clear h4
  by_cases h5 : 9999999 < a0
  · have E := Lib.hid (show layR true [a0, a1, a2, a3, a4, a5, a6, a7, a8, a9, a10, a11, a12, a13, a14] = ([], 18) by unfold layR; have h3 := H3.out; rw [if_neg (by simp [hS]; omega), if_pos (by simp; omega)])
    have d5 : decide (9999999 < a0) = true := by simpa using h5
    go_enter Try.func46, Try.ntmps46
    go_wp2_with (first | (go_at_call 57; (with_reducible refine (refIs_any _ _ _ _ _ _ _ _ _ _ _ _).mono ?_); rintro e w1 ⟨rfl, hb1⟩; obtain ⟨hc1, hf1⟩ := bcell hb1; have hz1 : w.heap.size + 1 < w1.heap.size := (by have := hb1.size; simp at this; omega); have hy1 : w.heap.size < w1.heap.size := (by omega); have HB1 := Lib.hid (bT (bA (bel1 w _) _) hb1); clear hb1) | (go_at_call 51; (with_reducible refine (refSuits_any a0 a1 a2 a3 a4 a5 a6 a7 a8 a9 a10 a12 a13 _).mono ?_); rintro e w2 ⟨rfl, hb2⟩; obtain ⟨hc2, hf2⟩ := bcell hb2; have hz2 : w.heap.size + 1 < w2.heap.size := (by have := hb2.size; omega); have hy2 : w.heap.size < w2.heap.size := (by omega); have HB2 := Lib.hid (bT HB1.out hb2); clear hb2))
    go_ret2
    exact ⟨_, by rw [E.out] <;> rfl, by rw [E.out]; exact World.ownsRow_nil _ _ _ _, HB2.out⟩
  have d5 : decide (9999999 < a0) = false := by simpa using h5
  have E := Lib.hid (show layR true [a0, a1, a2, a3, a4, a5, a6, a7, a8, a9, a10, a11, a12, a13, a14] = joinR (layV a1 [a0, a1, a2, a3, a4, a5, a6, a7, a8, a9, a10, a11, a12, a13, a14]) (wsL a1) by have h3 := H3.out; have h4 := H4.out; unfold layR; rw [if_neg (by simp [hS]; omega), if_neg (by simp; omega)]; rfl)
  rw [E.out]
  exact refLayPut_full a0 a1 a2 a3 a4 a5 a6 a7 a8 a9 a10 a11 a12 a13 a14 w hv hT hS d1 d2 d3 d4 d5
end Go.Proofs.Ythejnlelegcgfaa
