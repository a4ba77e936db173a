/- Layer 20's laws FitsTells and FitsMore, walked: both come to true, for every ticket and every version. No condition. -/
import Derived.Test.YtiogogbkgekkdaaFits
namespace Go.Proofs.Ytiogogbkgekkdaa
open Go.RowKit
set_option linter.unusedVariables false
set_option maxRecDepth 100000
set_option linter.unusedSimpArgs false

theorem plain20_any (w : World) : Calls Try.prog 42 #[] w fun e w' => e = .returned (.agg #[.int .i64 42, .int .i64 1, .int .i64 3, .int .i64 20, .int .i64 2, .int .i64 0, .int .i64 0, .int .i64 10, .int .i64 1, .int .i64 1, .int .i64 0]) ∧ Below w.heap.size w w' := by
  go_enter Try.func42, Try.ntmps42
  go_wp2
  refine bodyPost_ret (v := .agg #[.int .i64 42, .int .i64 1, .int .i64 3, .int .i64 20, .int .i64 2, .int .i64 0, .int .i64 0, .int .i64 10, .int .i64 1, .int .i64 1, .int .i64 0]) (by simp [results, Try.results42, go_sem]) rfl ⟨rfl, (by repeat (first | (with_reducible exact bR _) | (with_reducible refine bT ?_ (by assumption)) | (with_reducible apply bA) | (with_reducible apply bD) | (with_reducible apply bN) | (with_reducible refine bS ?_ (by first | omega | (simp; done) | (simp; omega)))))⟩

set_option maxHeartbeats 4000000 in
set_option maxRecDepth 100000 in
theorem fitted_any (w : World) : Calls Try.prog 16 #[] w fun e w' => e = .returned (.bool true) ∧ Below w.heap.size w w' := by
  have s1 : strB 42 1 3 20 2 0 0 10 1 1 0 = true := by decide
  have v1 : verV 42 1 3 20 2 0 0 10 1 1 0 = 1 := by decide
  have e1 : verE 42 1 3 20 2 0 0 10 1 1 0 = 0 := by decide
  have b1 : barB 42 1 3 20 2 0 0 10 1 1 0 1 = true := by decide
  have v2 : verV 42 1 3 20 2 2 0 10 1 1 0 = 2 := by decide
  have e2 : verE 42 1 3 20 2 2 0 10 1 1 0 = 0 := by decide
  have b2 : barB 42 1 3 20 2 2 0 10 1 1 0 1 = false := by decide
  have v3 : verV 42 1 3 20 2 2 9 10 1 1 0 = 3 := by decide
  have e3 : verE 42 1 3 20 2 2 9 10 1 1 0 = 0 := by decide
  have s3 : strB 42 1 3 20 2 2 9 10 1 1 0 = false := by decide
  have v4 : verV 42 1 3 20 9 2 9 10 1 1 0 = 0 := by decide
  have e4 : verE 42 1 3 20 9 2 9 10 1 1 0 = 1 := by decide
  go_enter Try.func16, Try.ntmps16
  go_wp2_with (first
    | (go_at_call 42; refine (plain20_any _).mono ?_; rintro e w1 ⟨rfl, hb1⟩)
    | (go_at_call 21; refine (stripe_any _ _ _ _ _ _ _ _ _ _ _ _).mono ?_; rintro e w' ⟨rfl, hb⟩; obtain ⟨hc, hf⟩ := bcell hb; have hz : w1.heap.size < w'.heap.size := by have := hb.size; (try simp at this); omega)
    | (go_at_call 43; refine (version_any _ _ _ _ _ _ _ _ _ _ _ _).mono ?_; rintro e w' ⟨rfl, hb⟩; obtain ⟨hc, hf⟩ := bcell hb; have hz : w1.heap.size < w'.heap.size := by have := hb.size; (try simp at this); omega)
    | (go_at_call 18; refine (bar_any _ _ _ _ _ _ _ _ _ _ _ _ _).mono ?_; rintro e w' ⟨rfl, hb⟩; obtain ⟨hc, hf⟩ := bcell hb; have hz : w1.heap.size < w'.heap.size := by have := hb.size; (try simp at this); omega))
  go_ret
  have hs1 := hb1.size
  exact ⟨rfl, (by repeat (first | (with_reducible exact bR _) | (with_reducible refine bT ?_ (by assumption)) | (with_reducible apply bA) | (with_reducible apply bD) | (with_reducible apply bN) | (with_reducible refine bS ?_ (by first | omega | (simp; done) | (simp; omega)))))⟩

theorem verN_pos (a5 a6 : Int) : 1 ≤ verN a5 a6 := by unfold verN; split <;> (try split) <;> omega
theorem verN_le (a5 a6 : Int) : verN a5 a6 ≤ 3 := by unfold verN; split <;> (try split) <;> omega
theorem str_bar (a0 a1 a2 a3 a4 a5 a6 a7 a8 a9 a10 : Int) (h : strB a0 a1 a2 a3 a4 a5 a6 a7 a8 a9 a10 = true) : barB a0 a1 a2 a3 a4 a5 a6 a7 a8 a9 a10 2 = true ∧ barB a0 a1 a2 a3 a4 a5 a6 a7 a8 a9 a10 3 = true := by
  simp only [strB, Bool.and_eq_true, decide_eq_true_eq, beq_iff_eq] at h
  obtain ⟨hT, h0, h6⟩ := h
  have h1 := verN_le a5 a6
  have h2 : verN a5 a6 ≤ 2 := by rw [h6]; simp only [verN, if_true]; split <;> omega
  constructor <;> simp [barB, hT] <;> omega
theorem bar_more (a0 a1 a2 a3 a4 a5 a6 a7 a8 a9 a10 v : Int) (h : barB a0 a1 a2 a3 a4 a5 a6 a7 a8 a9 a10 v = true) : 1 ≤ v ∧ v ≤ 3 ∧ barB a0 a1 a2 a3 a4 a5 a6 a7 a8 a9 a10 3 = true ∧ (v ≠ 3 → barB a0 a1 a2 a3 a4 a5 a6 a7 a8 a9 a10 (v + 1) = true) := by
  simp only [barB, Bool.and_eq_true, decide_eq_true_eq] at h
  obtain ⟨hT, h0, h3⟩ := h
  have h1 := verN_pos a5 a6
  refine ⟨by omega, h3, by simp [barB, hT]; omega, fun hn => by simp [barB, hT]; omega⟩

end Go.Proofs.Ytiogogbkgekkdaa
