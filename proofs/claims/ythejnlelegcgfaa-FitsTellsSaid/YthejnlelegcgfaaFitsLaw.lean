/- Layer 20's laws FitsTells and FitsMore, walked: both come to true, for every ticket and every version. No condition. -/
import Derived.Test.YthejnlelegcgfaaFits
namespace Go.Proofs.Ythejnlelegcgfaa
open Go.RowKit
set_option linter.unusedVariables false
set_option linter.unusedSimpArgs false

theorem plain20_any (w : World) : Calls Try.prog 58 #[] w fun e w' => e = .returned (.agg #[.int .i64 42, .int .i64 1, .int .i64 3, .int .i64 20, .int .i64 2, .int .i64 0, .int .i64 0, .int .i64 10, .int .i64 1, .int .i64 1, .int .i64 0]) ∧ Below w.heap.size w w' := by
  go_enter Try.func58, Try.ntmps58
  go_wp2
  refine bodyPost_ret (v := .agg #[.int .i64 42, .int .i64 1, .int .i64 3, .int .i64 20, .int .i64 2, .int .i64 0, .int .i64 0, .int .i64 10, .int .i64 1, .int .i64 1, .int .i64 0]) (by simp [results, Try.results58, go_sem]) rfl ⟨rfl, (by repeat (first | (with_reducible exact bR _) | (with_reducible refine bT ?_ (by assumption)) | (with_reducible apply bA) | (with_reducible apply bD) | (with_reducible apply bN) | (with_reducible refine bS ?_ (by first | omega | (simp; done) | (simp; omega)))))⟩

set_option maxHeartbeats 4000000 in
set_option maxRecDepth 100000 in
theorem fitted_any (w : World) : Calls Try.prog 20 #[] w fun e w' => e = .returned (.bool true) ∧ Below w.heap.size w w' := by
  have s1 : strB 42 1 3 20 2 0 0 10 1 1 0 = true := by decide
  have v1 : verV 42 1 3 20 2 0 0 10 1 1 0 = 1 := by decide
  have e1 : verE 42 1 3 20 2 0 0 10 1 1 0 = 0 := by decide
  have b1 : barB 42 1 3 20 2 0 0 10 1 1 0 1 = true := by decide
  have v2 : verV 42 1 3 20 2 2 0 10 1 1 0 = 2 := by decide
  have e2 : verE 42 1 3 20 2 2 0 10 1 1 0 = 0 := by decide
  have b2 : barB 42 1 3 20 2 2 0 10 1 1 0 1 = false := by decide
  have v3 : verV 42 1 3 20 2 2 9 10 1 1 0 = 3 := by decide
  have e3 : verE 42 1 3 20 2 2 9 10 1 1 0 = 0 := by decide
  have s3 : strB 42 1 3 20 2 2 9 10 1 1 0 = false := by decide
  have v4 : verV 42 1 3 20 9 2 9 10 1 1 0 = 0 := by decide
  have e4 : verE 42 1 3 20 9 2 9 10 1 1 0 = 1 := by decide
  go_enter Try.func20, Try.ntmps20
  go_wp2_with (first
    | (go_at_call 58; refine (plain20_any _).mono ?_; rintro e w1 ⟨rfl, hb1⟩)
    | (go_at_call 21; refine (stripe_any _ _ _ _ _ _ _ _ _ _ _ _).mono ?_; rintro e w' ⟨rfl, hb⟩; obtain ⟨hc, hf⟩ := bcell hb; have hz : w1.heap.size < w'.heap.size := by have := hb.size; (try simp at this); omega)
    | (go_at_call 18; refine (version_any _ _ _ _ _ _ _ _ _ _ _ _).mono ?_; rintro e w' ⟨rfl, hb⟩; obtain ⟨hc, hf⟩ := bcell hb; have hz : w1.heap.size < w'.heap.size := by have := hb.size; (try simp at this); omega)
    | (go_at_call 23; refine (bar_any _ _ _ _ _ _ _ _ _ _ _ _ _).mono ?_; rintro e w' ⟨rfl, hb⟩; obtain ⟨hc, hf⟩ := bcell hb; have hz : w1.heap.size < w'.heap.size := by have := hb.size; (try simp at this); omega))
  go_ret
  have hs1 := hb1.size
  exact ⟨rfl, (by repeat (first | (with_reducible exact bR _) | (with_reducible refine bT ?_ (by assumption)) | (with_reducible apply bA) | (with_reducible apply bD) | (with_reducible apply bN) | (with_reducible refine bS ?_ (by first | omega | (simp; done) | (simp; omega)))))⟩

set_option maxHeartbeats 8000000 in
set_option maxRecDepth 100000 in
theorem fitsTells_any (a0 a1 a2 a3 a4 a5 a6 a7 a8 a9 a10 v : Int) (w : World) : Calls Try.prog 3 #[.agg #[.int .i64 a0, .int .i64 a1, .int .i64 a2, .int .i64 a3, .int .i64 a4, .int .i64 a5, .int .i64 a6, .int .i64 a7, .int .i64 a8, .int .i64 a9, .int .i64 a10], .int .i64 v] w fun e w' => e = .returned (.bool true) ∧ Below w.heap.size w w' := by
  have hz0 : w.heap.size < (w.alloc (.cells #[.int .i64 a0, .int .i64 a1, .int .i64 a2, .int .i64 a3, .int .i64 a4, .int .i64 a5, .int .i64 a6, .int .i64 a7, .int .i64 a8, .int .i64 a9, .int .i64 a10] 23)).heap.size := by simp
  go_enter Try.func3, Try.ntmps3
  go_wp2_with (first
    | (go_at_call 18; refine (version_any _ _ _ _ _ _ _ _ _ _ _ _).mono ?_; rintro e w' ⟨rfl, hb⟩; obtain ⟨hc, hf⟩ := bcell hb; have hz : w.heap.size < w'.heap.size := by have := hb.size; (try simp at this); omega)
    | (go_at_call 19; refine (refVersion_any _ _ _ _ _ _ _ _ _ _ _ _).mono ?_; rintro e w' ⟨rfl, hb⟩; obtain ⟨hc, hf⟩ := bcell hb; have hz : w.heap.size < w'.heap.size := by have := hb.size; (try simp at this); omega))
  go_region_held3 (fun w9 => w.heap.size < w9.heap.size ∧ w9.cell? ⟨w.heap.size, 0, none⟩ = some (.int .i64 a0) ∧ w9.cell? ⟨w.heap.size, 1, none⟩ = some (.int .i64 a1) ∧ w9.cell? ⟨w.heap.size, 2, none⟩ = some (.int .i64 a2) ∧ w9.cell? ⟨w.heap.size, 3, none⟩ = some (.int .i64 a3) ∧ w9.cell? ⟨w.heap.size, 4, none⟩ = some (.int .i64 a4) ∧ w9.cell? ⟨w.heap.size, 5, none⟩ = some (.int .i64 a5) ∧ w9.cell? ⟨w.heap.size, 6, none⟩ = some (.int .i64 a6) ∧ w9.cell? ⟨w.heap.size, 7, none⟩ = some (.int .i64 a7) ∧ w9.cell? ⟨w.heap.size, 8, none⟩ = some (.int .i64 a8) ∧ w9.cell? ⟨w.heap.size, 9, none⟩ = some (.int .i64 a9) ∧ w9.cell? ⟨w.heap.size, 10, none⟩ = some (.int .i64 a10)) (first | (go_keep; done) | exact tkS_below (by assumption) hb)
    (first
    | (go_at_call 20; refine (fitted_any _).mono ?_; rintro e w' ⟨rfl, hb⟩; obtain ⟨hc, hf⟩ := bcell hb; have hz : w.heap.size < w'.heap.size := by have := hb.size; (try simp at this); omega)
    | (go_at_call 21; refine (stripe_any _ _ _ _ _ _ _ _ _ _ _ _).mono ?_; rintro e w' ⟨rfl, hb⟩; obtain ⟨hc, hf⟩ := bcell hb; have hz : w.heap.size < w'.heap.size := by have := hb.size; (try simp at this); omega)
    | (go_at_call 22; refine (refStripe_any _ _ _ _ _ _ _ _ _ _ _ _).mono ?_; rintro e w' ⟨rfl, hb⟩; obtain ⟨hc, hf⟩ := bcell hb; have hz : w.heap.size < w'.heap.size := by have := hb.size; (try simp at this); omega)
    | (go_at_call 23; refine (bar_any _ _ _ _ _ _ _ _ _ _ _ _ _).mono ?_; rintro e w' ⟨rfl, hb⟩; obtain ⟨hc, hf⟩ := bcell hb; have hz : w.heap.size < w'.heap.size := by have := hb.size; (try simp at this); omega)
    | (go_at_call 24; refine (refBar_any _ _ _ _ _ _ _ _ _ _ _ _ _).mono ?_; rintro e w' ⟨rfl, hb⟩; obtain ⟨hc, hf⟩ := bcell hb; have hz : w.heap.size < w'.heap.size := by have := hb.size; (try simp at this); omega))
  go_wp2
  go_ret
  exact ⟨by simp, (by repeat (first | (with_reducible exact bR _) | (with_reducible refine bT ?_ (by assumption)) | (with_reducible apply bA) | (with_reducible apply bD) | (with_reducible apply bN) | (with_reducible refine bS ?_ (by first | omega | (simp; done) | (simp; omega)))))⟩

theorem verN_pos (a5 a6 : Int) : 1 ≤ verN a5 a6 := by unfold verN; split <;> (try split) <;> omega
theorem verN_le (a5 a6 : Int) : verN a5 a6 ≤ 3 := by unfold verN; split <;> (try split) <;> omega
theorem str_bar (a0 a1 a2 a3 a4 a5 a6 a7 a8 a9 a10 : Int) (h : strB a0 a1 a2 a3 a4 a5 a6 a7 a8 a9 a10 = true) : barB a0 a1 a2 a3 a4 a5 a6 a7 a8 a9 a10 2 = true ∧ barB a0 a1 a2 a3 a4 a5 a6 a7 a8 a9 a10 3 = true := by
  simp only [strB, Bool.and_eq_true, decide_eq_true_eq, beq_iff_eq] at h
  obtain ⟨hT, h0, h6⟩ := h
  have h1 := verN_le a5 a6
  have h2 : verN a5 a6 ≤ 2 := by rw [h6]; simp only [verN, if_true]; split <;> omega
  constructor <;> simp [barB, hT] <;> omega
theorem bar_more (a0 a1 a2 a3 a4 a5 a6 a7 a8 a9 a10 v : Int) (h : barB a0 a1 a2 a3 a4 a5 a6 a7 a8 a9 a10 v = true) : 1 ≤ v ∧ v ≤ 3 ∧ barB a0 a1 a2 a3 a4 a5 a6 a7 a8 a9 a10 3 = true ∧ (v ≠ 3 → barB a0 a1 a2 a3 a4 a5 a6 a7 a8 a9 a10 (v + 1) = true) := by
  simp only [barB, Bool.and_eq_true, decide_eq_true_eq] at h
  obtain ⟨hT, h0, h3⟩ := h
  have h1 := verN_pos a5 a6
  refine ⟨by omega, h3, by simp [barB, hT]; omega, fun hn => by simp [barB, hT]; omega⟩

set_option maxHeartbeats 8000000 in
set_option maxRecDepth 100000 in
theorem fitsMore_any (a0 a1 a2 a3 a4 a5 a6 a7 a8 a9 a10 v : Int) (w : World) : Calls Try.prog 4 #[.agg #[.int .i64 a0, .int .i64 a1, .int .i64 a2, .int .i64 a3, .int .i64 a4, .int .i64 a5, .int .i64 a6, .int .i64 a7, .int .i64 a8, .int .i64 a9, .int .i64 a10], .int .i64 v] w fun e w' => e = .returned (.bool true) ∧ Below w.heap.size w w' := by
  cases hS : strB a0 a1 a2 a3 a4 a5 a6 a7 a8 a9 a10 with
  | false =>
    cases hB : barB a0 a1 a2 a3 a4 a5 a6 a7 a8 a9 a10 v with
    | false =>
      go_enter Try.func4, Try.ntmps4; go_wp2_with (first | (go_at_call 20; refine (fitted_any _).mono ?_; rintro e w' ⟨rfl, hb⟩; obtain ⟨hc, hf⟩ := bcell hb; have hz : w.heap.size < w'.heap.size := by have := hb.size; (try simp at this); omega) | (go_at_call 21; refine (stripe_any _ _ _ _ _ _ _ _ _ _ _ _).mono ?_; rintro e w' ⟨rfl, hb⟩; obtain ⟨hc, hf⟩ := bcell hb; have hz : w.heap.size < w'.heap.size := by have := hb.size; (try simp at this); omega) | (go_at_call 23; refine (bar_any _ _ _ _ _ _ _ _ _ _ _ _ _).mono ?_; rintro e w' ⟨rfl, hb⟩; obtain ⟨hc, hf⟩ := bcell hb; have hz : w.heap.size < w'.heap.size := by have := hb.size; (try simp at this); omega)); go_ret; exact ⟨rfl, (by repeat (first | (with_reducible exact bR _) | (with_reducible refine bT ?_ (by assumption)) | (with_reducible apply bA) | (with_reducible apply bD) | (with_reducible apply bN) | (with_reducible refine bS ?_ (by first | omega | (simp; done) | (simp; omega)))))⟩
    | true =>
      obtain ⟨h1, h3, b3, bn⟩ := bar_more _ _ _ _ _ _ _ _ _ _ _ _ hB
      by_cases hv : v = 3
      · have d3 : (v == 3) = true := by simpa using hv
        have HV := Lib.hid hv
        clear bn hv
        go_enter Try.func4, Try.ntmps4; go_wp2_with (first | (go_at_call 20; refine (fitted_any _).mono ?_; rintro e w' ⟨rfl, hb⟩; obtain ⟨hc, hf⟩ := bcell hb; have hz : w.heap.size < w'.heap.size := by have := hb.size; (try simp at this); omega) | (go_at_call 21; refine (stripe_any _ _ _ _ _ _ _ _ _ _ _ _).mono ?_; rintro e w' ⟨rfl, hb⟩; obtain ⟨hc, hf⟩ := bcell hb; have hz : w.heap.size < w'.heap.size := by have := hb.size; (try simp at this); omega) | (go_at_call 23; refine (bar_any _ _ _ _ _ _ _ _ _ _ _ _ _).mono ?_; rintro e w' ⟨rfl, hb⟩; obtain ⟨hc, hf⟩ := bcell hb; have hz : w.heap.size < w'.heap.size := by have := hb.size; (try simp at this); omega)); go_ret; exact ⟨rfl, (by repeat (first | (with_reducible exact bR _) | (with_reducible refine bT ?_ (by assumption)) | (with_reducible apply bA) | (with_reducible apply bD) | (with_reducible apply bN) | (with_reducible refine bS ?_ (by first | omega | (simp; done) | (simp; omega)))))⟩
      · have d3 : (v == 3) = false := by simpa using hv
        have b4 := bn hv
        clear bn hv
        go_enter Try.func4, Try.ntmps4; go_wp2_with (first | (go_at_call 20; refine (fitted_any _).mono ?_; rintro e w' ⟨rfl, hb⟩; obtain ⟨hc, hf⟩ := bcell hb; have hz : w.heap.size < w'.heap.size := by have := hb.size; (try simp at this); omega) | (go_at_call 21; refine (stripe_any _ _ _ _ _ _ _ _ _ _ _ _).mono ?_; rintro e w' ⟨rfl, hb⟩; obtain ⟨hc, hf⟩ := bcell hb; have hz : w.heap.size < w'.heap.size := by have := hb.size; (try simp at this); omega) | (go_at_call 23; refine (bar_any _ _ _ _ _ _ _ _ _ _ _ _ _).mono ?_; rintro e w' ⟨rfl, hb⟩; obtain ⟨hc, hf⟩ := bcell hb; have hz : w.heap.size < w'.heap.size := by have := hb.size; (try simp at this); omega)); go_ret; exact ⟨rfl, (by repeat (first | (with_reducible exact bR _) | (with_reducible refine bT ?_ (by assumption)) | (with_reducible apply bA) | (with_reducible apply bD) | (with_reducible apply bN) | (with_reducible refine bS ?_ (by first | omega | (simp; done) | (simp; omega)))))⟩
  | true =>
    obtain ⟨k2, k3⟩ := str_bar _ _ _ _ _ _ _ _ _ _ _ hS
    cases hB : barB a0 a1 a2 a3 a4 a5 a6 a7 a8 a9 a10 v with
    | false =>
      go_enter Try.func4, Try.ntmps4; go_wp2_with (first | (go_at_call 20; refine (fitted_any _).mono ?_; rintro e w' ⟨rfl, hb⟩; obtain ⟨hc, hf⟩ := bcell hb; have hz : w.heap.size < w'.heap.size := by have := hb.size; (try simp at this); omega) | (go_at_call 21; refine (stripe_any _ _ _ _ _ _ _ _ _ _ _ _).mono ?_; rintro e w' ⟨rfl, hb⟩; obtain ⟨hc, hf⟩ := bcell hb; have hz : w.heap.size < w'.heap.size := by have := hb.size; (try simp at this); omega) | (go_at_call 23; refine (bar_any _ _ _ _ _ _ _ _ _ _ _ _ _).mono ?_; rintro e w' ⟨rfl, hb⟩; obtain ⟨hc, hf⟩ := bcell hb; have hz : w.heap.size < w'.heap.size := by have := hb.size; (try simp at this); omega)); go_ret; exact ⟨rfl, (by repeat (first | (with_reducible exact bR _) | (with_reducible refine bT ?_ (by assumption)) | (with_reducible apply bA) | (with_reducible apply bD) | (with_reducible apply bN) | (with_reducible refine bS ?_ (by first | omega | (simp; done) | (simp; omega)))))⟩
    | true =>
      obtain ⟨h1, h3, b3, bn⟩ := bar_more _ _ _ _ _ _ _ _ _ _ _ _ hB
      by_cases hv : v = 3
      · have d3 : (v == 3) = true := by simpa using hv
        have HV := Lib.hid hv
        clear bn hv
        go_enter Try.func4, Try.ntmps4; go_wp2_with (first | (go_at_call 20; refine (fitted_any _).mono ?_; rintro e w' ⟨rfl, hb⟩; obtain ⟨hc, hf⟩ := bcell hb; have hz : w.heap.size < w'.heap.size := by have := hb.size; (try simp at this); omega) | (go_at_call 21; refine (stripe_any _ _ _ _ _ _ _ _ _ _ _ _).mono ?_; rintro e w' ⟨rfl, hb⟩; obtain ⟨hc, hf⟩ := bcell hb; have hz : w.heap.size < w'.heap.size := by have := hb.size; (try simp at this); omega) | (go_at_call 23; refine (bar_any _ _ _ _ _ _ _ _ _ _ _ _ _).mono ?_; rintro e w' ⟨rfl, hb⟩; obtain ⟨hc, hf⟩ := bcell hb; have hz : w.heap.size < w'.heap.size := by have := hb.size; (try simp at this); omega)); go_ret; exact ⟨rfl, (by repeat (first | (with_reducible exact bR _) | (with_reducible refine bT ?_ (by assumption)) | (with_reducible apply bA) | (with_reducible apply bD) | (with_reducible apply bN) | (with_reducible refine bS ?_ (by first | omega | (simp; done) | (simp; omega)))))⟩
      · have d3 : (v == 3) = false := by simpa using hv
        have b4 := bn hv
        clear bn hv
        go_enter Try.func4, Try.ntmps4; go_wp2_with (first | (go_at_call 20; refine (fitted_any _).mono ?_; rintro e w' ⟨rfl, hb⟩; obtain ⟨hc, hf⟩ := bcell hb; have hz : w.heap.size < w'.heap.size := by have := hb.size; (try simp at this); omega) | (go_at_call 21; refine (stripe_any _ _ _ _ _ _ _ _ _ _ _ _).mono ?_; rintro e w' ⟨rfl, hb⟩; obtain ⟨hc, hf⟩ := bcell hb; have hz : w.heap.size < w'.heap.size := by have := hb.size; (try simp at this); omega) | (go_at_call 23; refine (bar_any _ _ _ _ _ _ _ _ _ _ _ _ _).mono ?_; rintro e w' ⟨rfl, hb⟩; obtain ⟨hc, hf⟩ := bcell hb; have hz : w.heap.size < w'.heap.size := by have := hb.size; (try simp at this); omega)); go_ret; exact ⟨rfl, (by repeat (first | (with_reducible exact bR _) | (with_reducible refine bT ?_ (by assumption)) | (with_reducible apply bA) | (with_reducible apply bD) | (with_reducible apply bN) | (with_reducible refine bS ?_ (by first | omega | (simp; done) | (simp; omega)))))⟩
end Go.Proofs.Ythejnlelegcgfaa
