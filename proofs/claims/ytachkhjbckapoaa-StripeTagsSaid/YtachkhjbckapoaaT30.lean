/- Layer 18: what fields.Put computes where it refuses at once. No condition. -/
import Derived.Test.YtachkhjbckapoaaT29
import Derived.Test.YtachkhjbckapoaaT20
namespace Go.Proofs.Ytachkhjbckapoaa
open Go.RowKit
set_option linter.unusedVariables false
set_option maxRecDepth 100000
set_option linter.unusedSimpArgs false

set_option maxHeartbeats 4000000 in
set_option maxRecDepth 100000 in
theorem fieldsPut_b1 (a0 a1 a2 a3 a4 a5 a6 a7 a8 a9 a10 a11 a12 a13 a14 : Int) (w : World) (E : Hid (fpE [a0, a1, a2, a3, a4, a5, a6, a7, a8, a9, a10, a11, a12, a13, a14] = ([], 1))) (hT : tkB a0 a1 a2 a3 a4 a5 a6 a7 a8 a9 a10 = false)  :
    Calls Try.prog 29 #[.agg #[.int .i64 a0, .int .i64 a1, .int .i64 a2, .int .i64 a3, .int .i64 a4, .int .i64 a5, .int .i64 a6, .int .i64 a7, .int .i64 a8, .int .i64 a9, .int .i64 a10, .int .i64 a11, .int .i64 a12, .int .i64 a13, .int .i64 a14]] w (FieldsRet (fpE [a0, a1, a2, a3, a4, a5, a6, a7, a8, a9, a10, a11, a12, a13, a14]) w) := by
  go_enter Try.func29, Try.ntmps29
  go_wp2_with (go_at_call 72; (with_reducible refine (tk_any a0 a1 a2 a3 a4 a5 a6 a7 a8 a9 a10 _).mono ?_); rintro e w1 ⟨he, hb1⟩; rw [hT] at he; subst he; obtain ⟨hcb1, hfb1⟩ := bcell hb1; have hlt1 : w.heap.size < w1.heap.size := (by have := hb1.size; simp at this; omega); have HB1 := Lib.hid (bT (bel1 w _) hb1); clear hb1)
  all_goals (go_ret2; exact ⟨_, [], by rw [E.out] <;> rfl, by rw [E.out] <;> rfl, OwnF.nil _ _, HB1.out⟩)

set_option maxHeartbeats 4000000 in
set_option maxRecDepth 100000 in
theorem fieldsPut_b2 (a0 a1 a2 a3 a4 a5 a6 a7 a8 a9 a10 a11 a12 a13 a14 : Int) (w : World) (E : Hid (fpE [a0, a1, a2, a3, a4, a5, a6, a7, a8, a9, a10, a11, a12, a13, a14] = ([], 1))) (hT : tkB a0 a1 a2 a3 a4 a5 a6 a7 a8 a9 a10 = true) (d1 : decide (a11 < 0) = true)  :
    Calls Try.prog 29 #[.agg #[.int .i64 a0, .int .i64 a1, .int .i64 a2, .int .i64 a3, .int .i64 a4, .int .i64 a5, .int .i64 a6, .int .i64 a7, .int .i64 a8, .int .i64 a9, .int .i64 a10, .int .i64 a11, .int .i64 a12, .int .i64 a13, .int .i64 a14]] w (FieldsRet (fpE [a0, a1, a2, a3, a4, a5, a6, a7, a8, a9, a10, a11, a12, a13, a14]) w) := by
  go_enter Try.func29, Try.ntmps29
  go_wp2_with (go_at_call 72; (with_reducible refine (tk_any a0 a1 a2 a3 a4 a5 a6 a7 a8 a9 a10 _).mono ?_); rintro e w1 ⟨he, hb1⟩; rw [hT] at he; subst he; obtain ⟨hcb1, hfb1⟩ := bcell hb1; have hlt1 : w.heap.size < w1.heap.size := (by have := hb1.size; simp at this; omega); have HB1 := Lib.hid (bT (bel1 w _) hb1); clear hb1)
  all_goals (go_ret2; exact ⟨_, [], by rw [E.out] <;> rfl, by rw [E.out] <;> rfl, OwnF.nil _ _, HB1.out⟩)

set_option maxHeartbeats 4000000 in
set_option maxRecDepth 100000 in
theorem fieldsPut_b3 (a0 a1 a2 a3 a4 a5 a6 a7 a8 a9 a10 a11 a12 a13 a14 : Int) (w : World) (E : Hid (fpE [a0, a1, a2, a3, a4, a5, a6, a7, a8, a9, a10, a11, a12, a13, a14] = ([], 1))) (hT : tkB a0 a1 a2 a3 a4 a5 a6 a7 a8 a9 a10 = true) (d1 : decide (a11 < 0) = false) (d2 : decide (100 ≤ a11) = true)  :
    Calls Try.prog 29 #[.agg #[.int .i64 a0, .int .i64 a1, .int .i64 a2, .int .i64 a3, .int .i64 a4, .int .i64 a5, .int .i64 a6, .int .i64 a7, .int .i64 a8, .int .i64 a9, .int .i64 a10, .int .i64 a11, .int .i64 a12, .int .i64 a13, .int .i64 a14]] w (FieldsRet (fpE [a0, a1, a2, a3, a4, a5, a6, a7, a8, a9, a10, a11, a12, a13, a14]) w) := by
  go_enter Try.func29, Try.ntmps29
  go_wp2_with (go_at_call 72; (with_reducible refine (tk_any a0 a1 a2 a3 a4 a5 a6 a7 a8 a9 a10 _).mono ?_); rintro e w1 ⟨he, hb1⟩; rw [hT] at he; subst he; obtain ⟨hcb1, hfb1⟩ := bcell hb1; have hlt1 : w.heap.size < w1.heap.size := (by have := hb1.size; simp at this; omega); have HB1 := Lib.hid (bT (bel1 w _) hb1); clear hb1)
  all_goals (go_ret2; exact ⟨_, [], by rw [E.out] <;> rfl, by rw [E.out] <;> rfl, OwnF.nil _ _, HB1.out⟩)

set_option maxHeartbeats 4000000 in
set_option maxRecDepth 100000 in
theorem fieldsPut_b4 (a0 a1 a2 a3 a4 a5 a6 a7 a8 a9 a10 a11 a12 a13 a14 : Int) (w : World) (E : Hid (fpE [a0, a1, a2, a3, a4, a5, a6, a7, a8, a9, a10, a11, a12, a13, a14] = ([], 1))) (hT : tkB a0 a1 a2 a3 a4 a5 a6 a7 a8 a9 a10 = true) (d1 : decide (a11 < 0) = false) (d2 : decide (100 ≤ a11) = false) (d3 : (a12 == 0) = false)  :
    Calls Try.prog 29 #[.agg #[.int .i64 a0, .int .i64 a1, .int .i64 a2, .int .i64 a3, .int .i64 a4, .int .i64 a5, .int .i64 a6, .int .i64 a7, .int .i64 a8, .int .i64 a9, .int .i64 a10, .int .i64 a11, .int .i64 a12, .int .i64 a13, .int .i64 a14]] w (FieldsRet (fpE [a0, a1, a2, a3, a4, a5, a6, a7, a8, a9, a10, a11, a12, a13, a14]) w) := by
  go_enter Try.func29, Try.ntmps29
  go_wp2_with (go_at_call 72; (with_reducible refine (tk_any a0 a1 a2 a3 a4 a5 a6 a7 a8 a9 a10 _).mono ?_); rintro e w1 ⟨he, hb1⟩; rw [hT] at he; subst he; obtain ⟨hcb1, hfb1⟩ := bcell hb1; have hlt1 : w.heap.size < w1.heap.size := (by have := hb1.size; simp at this; omega); have HB1 := Lib.hid (bT (bel1 w _) hb1); clear hb1)
  all_goals (go_ret2; exact ⟨_, [], by rw [E.out] <;> rfl, by rw [E.out] <;> rfl, OwnF.nil _ _, HB1.out⟩)

set_option maxHeartbeats 4000000 in
set_option maxRecDepth 100000 in
theorem fieldsPut_b5 (a0 a1 a2 a3 a4 a5 a6 a7 a8 a9 a10 a11 a12 a13 a14 : Int) (w : World) (E : Hid (fpE [a0, a1, a2, a3, a4, a5, a6, a7, a8, a9, a10, a11, a12, a13, a14] = ([], 1))) (hT : tkB a0 a1 a2 a3 a4 a5 a6 a7 a8 a9 a10 = true) (d1 : decide (a11 < 0) = false) (d2 : decide (100 ≤ a11) = false) (d3 : (a12 == 0) = true) (d3b : (a13 == 0) = false)  :
    Calls Try.prog 29 #[.agg #[.int .i64 a0, .int .i64 a1, .int .i64 a2, .int .i64 a3, .int .i64 a4, .int .i64 a5, .int .i64 a6, .int .i64 a7, .int .i64 a8, .int .i64 a9, .int .i64 a10, .int .i64 a11, .int .i64 a12, .int .i64 a13, .int .i64 a14]] w (FieldsRet (fpE [a0, a1, a2, a3, a4, a5, a6, a7, a8, a9, a10, a11, a12, a13, a14]) w) := by
  go_enter Try.func29, Try.ntmps29
  go_wp2_with (go_at_call 72; (with_reducible refine (tk_any a0 a1 a2 a3 a4 a5 a6 a7 a8 a9 a10 _).mono ?_); rintro e w1 ⟨he, hb1⟩; rw [hT] at he; subst he; obtain ⟨hcb1, hfb1⟩ := bcell hb1; have hlt1 : w.heap.size < w1.heap.size := (by have := hb1.size; simp at this; omega); have HB1 := Lib.hid (bT (bel1 w _) hb1); clear hb1)
  all_goals (go_ret2; exact ⟨_, [], by rw [E.out] <;> rfl, by rw [E.out] <;> rfl, OwnF.nil _ _, HB1.out⟩)

set_option maxHeartbeats 4000000 in
set_option maxRecDepth 100000 in
theorem fieldsPut_b6 (a0 a1 a2 a3 a4 a5 a6 a7 a8 a9 a10 a11 a12 a13 a14 : Int) (w : World) (E : Hid (fpE [a0, a1, a2, a3, a4, a5, a6, a7, a8, a9, a10, a11, a12, a13, a14] = ([], 1))) (hT : tkB a0 a1 a2 a3 a4 a5 a6 a7 a8 a9 a10 = true) (d1 : decide (a11 < 0) = false) (d2 : decide (100 ≤ a11) = false) (d3 : (a12 == 0) = true) (d3b : (a13 == 0) = true) (d4 : decide (a14 < 1) = true)  :
    Calls Try.prog 29 #[.agg #[.int .i64 a0, .int .i64 a1, .int .i64 a2, .int .i64 a3, .int .i64 a4, .int .i64 a5, .int .i64 a6, .int .i64 a7, .int .i64 a8, .int .i64 a9, .int .i64 a10, .int .i64 a11, .int .i64 a12, .int .i64 a13, .int .i64 a14]] w (FieldsRet (fpE [a0, a1, a2, a3, a4, a5, a6, a7, a8, a9, a10, a11, a12, a13, a14]) w) := by
  go_enter Try.func29, Try.ntmps29
  go_wp2_with (go_at_call 72; (with_reducible refine (tk_any a0 a1 a2 a3 a4 a5 a6 a7 a8 a9 a10 _).mono ?_); rintro e w1 ⟨he, hb1⟩; rw [hT] at he; subst he; obtain ⟨hcb1, hfb1⟩ := bcell hb1; have hlt1 : w.heap.size < w1.heap.size := (by have := hb1.size; simp at this; omega); have HB1 := Lib.hid (bT (bel1 w _) hb1); clear hb1)
  all_goals (go_ret2; exact ⟨_, [], by rw [E.out] <;> rfl, by rw [E.out] <;> rfl, OwnF.nil _ _, HB1.out⟩)

set_option maxHeartbeats 4000000 in
set_option maxRecDepth 100000 in
theorem fieldsPut_b7 (a0 a1 a2 a3 a4 a5 a6 a7 a8 a9 a10 a11 a12 a13 a14 : Int) (w : World) (E : Hid (fpE [a0, a1, a2, a3, a4, a5, a6, a7, a8, a9, a10, a11, a12, a13, a14] = ([], 1))) (hT : tkB a0 a1 a2 a3 a4 a5 a6 a7 a8 a9 a10 = true) (d1 : decide (a11 < 0) = false) (d2 : decide (100 ≤ a11) = false) (d3 : (a12 == 0) = true) (d3b : (a13 == 0) = true) (d4 : decide (a14 < 1) = false) (d5 : decide (3 < a14) = true) :
    Calls Try.prog 29 #[.agg #[.int .i64 a0, .int .i64 a1, .int .i64 a2, .int .i64 a3, .int .i64 a4, .int .i64 a5, .int .i64 a6, .int .i64 a7, .int .i64 a8, .int .i64 a9, .int .i64 a10, .int .i64 a11, .int .i64 a12, .int .i64 a13, .int .i64 a14]] w (FieldsRet (fpE [a0, a1, a2, a3, a4, a5, a6, a7, a8, a9, a10, a11, a12, a13, a14]) w) := by
  go_enter Try.func29, Try.ntmps29
  go_wp2_with (go_at_call 72; (with_reducible refine (tk_any a0 a1 a2 a3 a4 a5 a6 a7 a8 a9 a10 _).mono ?_); rintro e w1 ⟨he, hb1⟩; rw [hT] at he; subst he; obtain ⟨hcb1, hfb1⟩ := bcell hb1; have hlt1 : w.heap.size < w1.heap.size := (by have := hb1.size; simp at this; omega); have HB1 := Lib.hid (bT (bel1 w _) hb1); clear hb1)
  all_goals (go_ret2; exact ⟨_, [], by rw [E.out] <;> rfl, by rw [E.out] <;> rfl, OwnF.nil _ _, HB1.out⟩)

end Go.Proofs.Ytachkhjbckapoaa
