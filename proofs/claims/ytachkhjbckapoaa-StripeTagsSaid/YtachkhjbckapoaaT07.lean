/- Tickets, the reference's side: the reference of layer 9 computes tkB as well, for every eleven numbers that are int's. No condition. -/
import Derived.Test.YtachkhjbckapoaaT06
namespace Go.Proofs.Ytachkhjbckapoaa
open Go.RowKit
set_option linter.unusedVariables false
set_option maxRecDepth 100000
set_option linter.unusedSimpArgs false

theorem ref07Is_any (s : Int) (w : World) :
    Calls Try.prog 147 #[.int .i64 s] w fun e w' => e = .returned (.bool (wB s 0 39)) ∧ w = w' := by
  by_cases h : 0 ≤ s
  · go_enter Try.func147, Try.ntmps147
    go_wp2
    go_ret
    simp [wB, h]
  · have hd : decide (0 ≤ s) = false := by simpa using h
    go_enter Try.func147, Try.ntmps147
    go_wp2
    go_ret
    simp [wB, hd]

set_option maxHeartbeats 2000000 in
theorem refPlace_any (a0 a1 a2 a3 a4 a5 a6 a7 a8 a9 a10 : Int) (w : World) :
    Calls Try.prog 120 #[.agg #[.int .i64 a0, .int .i64 a1, .int .i64 a2, .int .i64 a3, .int .i64 a4, .int .i64 a5, .int .i64 a6, .int .i64 a7, .int .i64 a8, .int .i64 a9, .int .i64 a10]] w fun e w' => e = .returned (.bool (placeB a1 a2 a3)) ∧ Below w.heap.size w w' := by
  by_cases h : a1 = 3
  · have h3 : (a1 == 3) = true := by simpa using h
    have e : placeB a1 a2 a3 = zonesB a2 a3 := by simp [placeB, h]
    have E := Lib.hid e
    clear e h
    by_cases c0 : 1 ≤ a2
    · by_cases c1 : a2 ≤ a3
      · go_enter Try.func120, Try.ntmps120
        go_wp2
        go_ret
        exact ⟨by rw [E.out]; simp [zonesB, wB, c0, c1]; omega, bel1 _ _⟩
      · have hd : decide (a2 ≤ a3) = false := by simpa using c1
        go_enter Try.func120, Try.ntmps120
        go_wp2
        go_ret
        exact ⟨by rw [E.out]; simp [zonesB, wB, hd], bel1 _ _⟩
    · have hd : decide (1 ≤ a2) = false := by simpa using c0
      go_enter Try.func120, Try.ntmps120
      go_wp2
      go_ret
      exact ⟨by rw [E.out]; simp [zonesB, wB, hd], bel1 _ _⟩
  · have h3 : (a1 == 3) = false := by simpa using h
    have e : placeB a1 a2 a3 = wayB a2 a3 := by simp [placeB, h]
    have E := Lib.hid e
    clear e h
    go_enter Try.func120, Try.ntmps120
    go_wp2_with (go_at_call 147; refine (ref07Is_any _ _).mono ?_; rintro e w' ⟨rfl, rfl⟩)
    all_goals (go_ret; exact ⟨by rw [E.out]; simp [wayB, *], bel1 _ _⟩)

set_option maxHeartbeats 2000000 in
theorem refUses_any (a0 a1 a2 a3 a4 a5 a6 a7 a8 a9 a10 : Int) (w : World) (k1 : 1 ≤ a1) (k4 : a1 ≤ 4) :
    Calls Try.prog 121 #[.agg #[.int .i64 a0, .int .i64 a1, .int .i64 a2, .int .i64 a3, .int .i64 a4, .int .i64 a5, .int .i64 a6, .int .i64 a7, .int .i64 a8, .int .i64 a9, .int .i64 a10]] w fun e w' => e = .returned (.bool (usesB a1 a9)) ∧ Below w.heap.size w w' := by
  by_cases h : a1 = 4
  · subst h
    by_cases c0 : 2 ≤ a9
    · go_enter Try.func121, Try.ntmps121
      go_wp2
      go_ret
      exact ⟨by simp [usesB, wB, c0], bel1 _ _⟩
    · have hd : decide (2 ≤ a9) = false := by simpa using c0
      go_enter Try.func121, Try.ntmps121
      go_wp2
      go_ret
      exact ⟨by simp [usesB, wB, hd], bel1 _ _⟩
  · have h3 : a1 = 1 ∨ a1 = 2 ∨ a1 = 3 := by omega
    rcases h3 with rfl | rfl | rfl
    all_goals
      go_enter Try.func121, Try.ntmps121
      go_wp2
      go_ret
      exact ⟨by simp [usesB], bel1 _ _⟩

set_option maxHeartbeats 8000000 in
set_option maxRecDepth 100000 in
theorem refIs_any (a0 a1 a2 a3 a4 a5 a6 a7 a8 a9 a10 : Int) (w : World) :
    Calls Try.prog 80 #[.agg #[.int .i64 a0, .int .i64 a1, .int .i64 a2, .int .i64 a3, .int .i64 a4, .int .i64 a5, .int .i64 a6, .int .i64 a7, .int .i64 a8, .int .i64 a9, .int .i64 a10]] w fun e w' => e = .returned (.bool (tkB a0 a1 a2 a3 a4 a5 a6 a7 a8 a9 a10)) ∧ Below w.heap.size w w' := by
  by_cases c0a : a0 < 1
  · go_enter Try.func80, Try.ntmps80
    go_wp2
    go_ret
    exact ⟨by simp [tkB, wB_no (n := a0) (a := 1) (b := 1099511627776) (Or.inl c0a)], bel1 _ _⟩
  by_cases c0b : 1099511627776 < a0
  · go_enter Try.func80, Try.ntmps80
    go_wp2
    go_ret
    exact ⟨by simp [tkB, wB_no (n := a0) (a := 1) (b := 1099511627776) (Or.inr c0b)], bel1 _ _⟩
  by_cases c1a : a1 < 1
  · go_enter Try.func80, Try.ntmps80
    go_wp2
    go_ret
    exact ⟨by simp [tkB, wB_no (n := a1) (a := 1) (b := 4) (Or.inl c1a)], bel1 _ _⟩
  by_cases c1b : 4 < a1
  · go_enter Try.func80, Try.ntmps80
    go_wp2
    go_ret
    exact ⟨by simp [tkB, wB_no (n := a1) (a := 1) (b := 4) (Or.inr c1b)], bel1 _ _⟩
  by_cases c2a : a4 < 1
  · go_enter Try.func80, Try.ntmps80
    go_wp2
    go_ret
    exact ⟨by simp [tkB, wB_no (n := a4) (a := 1) (b := 2) (Or.inl c2a)], bel1 _ _⟩
  by_cases c2b : 2 < a4
  · go_enter Try.func80, Try.ntmps80
    go_wp2
    go_ret
    exact ⟨by simp [tkB, wB_no (n := a4) (a := 1) (b := 2) (Or.inr c2b)], bel1 _ _⟩
  by_cases c3a : a5 < 0
  · go_enter Try.func80, Try.ntmps80
    go_wp2
    go_ret
    exact ⟨by simp [tkB, wB_no (n := a5) (a := 0) (b := 3) (Or.inl c3a)], bel1 _ _⟩
  by_cases c3b : 3 < a5
  · go_enter Try.func80, Try.ntmps80
    go_wp2
    go_ret
    exact ⟨by simp [tkB, wB_no (n := a5) (a := 0) (b := 3) (Or.inr c3b)], bel1 _ _⟩
  by_cases c4a : a6 < 0
  · go_enter Try.func80, Try.ntmps80
    go_wp2
    go_ret
    exact ⟨by simp [tkB, wB_no (n := a6) (a := 0) (b := 999) (Or.inl c4a)], bel1 _ _⟩
  by_cases c4b : 999 < a6
  · go_enter Try.func80, Try.ntmps80
    go_wp2
    go_ret
    exact ⟨by simp [tkB, wB_no (n := a6) (a := 0) (b := 999) (Or.inr c4b)], bel1 _ _⟩
  by_cases c5a : a7 < 0
  · go_enter Try.func80, Try.ntmps80
    go_wp2
    go_ret
    exact ⟨by simp [tkB, wB_no (n := a7) (a := 0) (b := 99999) (Or.inl c5a)], bel1 _ _⟩
  by_cases c5b : 99999 < a7
  · go_enter Try.func80, Try.ntmps80
    go_wp2
    go_ret
    exact ⟨by simp [tkB, wB_no (n := a7) (a := 0) (b := 99999) (Or.inr c5b)], bel1 _ _⟩
  by_cases c6a : a8 < 1
  · go_enter Try.func80, Try.ntmps80
    go_wp2
    go_ret
    exact ⟨by simp [tkB, wB_no (n := a8) (a := 1) (b := 999) (Or.inl c6a)], bel1 _ _⟩
  by_cases c6b : 999 < a8
  · go_enter Try.func80, Try.ntmps80
    go_wp2
    go_ret
    exact ⟨by simp [tkB, wB_no (n := a8) (a := 1) (b := 999) (Or.inr c6b)], bel1 _ _⟩
  by_cases c7 : 100000 < a7 + a8
  · go_enter Try.func80, Try.ntmps80
    go_wp2
    go_ret
    exact ⟨by simp [tkB, show ¬ (a7 + a8 ≤ 100000) by omega], bel1 _ _⟩
  by_cases c8a : a10 < 0
  · go_enter Try.func80, Try.ntmps80
    go_wp2
    go_ret
    exact ⟨by simp [tkB, wB_no (n := a10) (a := 0) (b := 9) (Or.inl c8a)], bel1 _ _⟩
  by_cases c8b : 9 < a10
  · go_enter Try.func80, Try.ntmps80
    go_wp2
    go_ret
    exact ⟨by simp [tkB, wB_no (n := a10) (a := 0) (b := 9) (Or.inr c8b)], bel1 _ _⟩
  have d0 : wB a0 1 1099511627776 = true := wB_mk (by omega) (by omega)
  have d1 : wB a1 1 4 = true := wB_mk (by omega) (by omega)
  have d2 : wB a4 1 2 = true := wB_mk (by omega) (by omega)
  have d3 : wB a5 0 3 = true := wB_mk (by omega) (by omega)
  have d4 : wB a6 0 999 = true := wB_mk (by omega) (by omega)
  have d5 : wB a7 0 99999 = true := wB_mk (by omega) (by omega)
  have d6 : wB a8 1 999 = true := wB_mk (by omega) (by omega)
  have d8 : wB a10 0 9 = true := wB_mk (by omega) (by omega)
  have hT : tkB a0 a1 a2 a3 a4 a5 a6 a7 a8 a9 a10 = (placeB a1 a2 a3 && usesB a1 a9) := by
    have d7 : decide (a7 + a8 ≤ 100000) = true := by simp; omega
    unfold tkB
    simp only [d0, d1, d2, d3, d4, d5, d6, d7, d8, Bool.true_and, Bool.and_true]
  have HT := Lib.hid hT
  clear hT d0 d1 d2 d3 d4 d5 d6 d8
  cases c9 : placeB a1 a2 a3 with
  | false =>
    go_enter Try.func80, Try.ntmps80
    go_wp2_with (go_at_call 120; refine (refPlace_any _ _ _ _ _ _ _ _ _ _ _ _).mono ?_; rintro e w' ⟨rfl, hb⟩; obtain ⟨hc, hf⟩ := bcell hb)
    go_ret
    exact ⟨by rw [HT.out, c9]; rfl, (by repeat (first | (with_reducible exact bR _) | (with_reducible refine bT ?_ (by assumption)) | (with_reducible apply bA) | (with_reducible apply bD) | (with_reducible apply bN) | (with_reducible refine bS ?_ (by first | omega | (simp; done) | (simp; omega)))))⟩
  | true =>
    go_enter Try.func80, Try.ntmps80
    go_wp2_with (first | (go_at_call 120; refine (refPlace_any _ _ _ _ _ _ _ _ _ _ _ _).mono ?_; rintro e w' ⟨rfl, hb⟩; obtain ⟨hc, hf⟩ := bcell hb) | (go_at_call 121; refine (refUses_any _ _ _ _ _ _ _ _ _ _ _ _ (by omega) (by omega)).mono ?_; rintro e w' ⟨rfl, hb2⟩))
    go_ret
    exact ⟨by rw [HT.out, c9]; simp, (by repeat (first | (with_reducible exact bR _) | (with_reducible refine bT ?_ (by assumption)) | (with_reducible apply bA) | (with_reducible apply bD) | (with_reducible apply bN) | (with_reducible refine bS ?_ (by first | omega | (simp; done) | (simp; omega)))))⟩
end Go.Proofs.Ytachkhjbckapoaa
