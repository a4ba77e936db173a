/- Layer 23: what a right journey of a ticket is. No condition. -/
import Derived.Test.YtpmfmkkifkpdcaaCov
namespace Go.Proofs.Ytpmfmkkifkpdcaa
open Go.RowKit
set_option linter.unusedVariables false
set_option maxRecDepth 100000
set_option linter.unusedSimpArgs false

set_option maxHeartbeats 8000000 in
theorem jou_any (a0 a1 a2 a3 a4 a5 a6 a7 a8 a9 a10 l i : Int) (w : World) :
    Calls Try.prog 42 #[.agg #[.int .i64 a0, .int .i64 a1, .int .i64 a2, .int .i64 a3, .int .i64 a4, .int .i64 a5, .int .i64 a6, .int .i64 a7, .int .i64 a8, .int .i64 a9, .int .i64 a10], .agg #[.int .i64 l, .int .i64 i]] w fun e w' => e = .returned (.bool (jouB a0 a1 a2 a3 a4 a5 a6 a7 a8 a9 a10 l i)) ∧ Below w.heap.size w w' := by
  have hz0 : w.heap.size + 1 < ((w.alloc (.cells #[.int .i64 a0, .int .i64 a1, .int .i64 a2, .int .i64 a3, .int .i64 a4, .int .i64 a5, .int .i64 a6, .int .i64 a7, .int .i64 a8, .int .i64 a9, .int .i64 a10] 33)).alloc (.cells #[.int .i64 l, .int .i64 i] 35)).heap.size := by simp
  cases hT : tkB a0 a1 a2 a3 a4 a5 a6 a7 a8 a9 a10 with
  | false =>
    have E : jouB a0 a1 a2 a3 a4 a5 a6 a7 a8 a9 a10 l i = false := by simp [jouB, hT]
    rw [E]
    clear E
    go_enter Try.func42, Try.ntmps42
    go_wp2_with (go_at_call 81; (with_reducible refine (tk_any _ _ _ _ _ _ _ _ _ _ _ _).mono ?_); rintro e w1 ⟨he, hb1⟩; rw [hT] at he; subst he)
    go_ret
    exact ⟨rfl, (by repeat (first | (with_reducible exact bR _) | (with_reducible refine bT ?_ (by assumption)) | (with_reducible apply bA) | (with_reducible apply bD) | (with_reducible apply bN) | (with_reducible refine bS ?_ (by first | omega | (simp; done) | (simp; omega)))))⟩
  | true =>
    cases hS : suB a9 l i with
    | false =>
      have E : jouB a0 a1 a2 a3 a4 a5 a6 a7 a8 a9 a10 l i = false := by simp [jouB, hS]
      rw [E]
      clear E
      go_enter Try.func42, Try.ntmps42
      go_wp2_with (first
        | (go_at_call 81; (with_reducible refine (tk_any _ _ _ _ _ _ _ _ _ _ _ _).mono ?_); rintro e w1 ⟨he, hb1⟩; rw [hT] at he; subst he; obtain ⟨hc1, hf1⟩ := bcell hb1)
        | (go_at_call 82; (with_reducible refine (suits_any _ _ _ _ _ _ _ _ _ _ _ l _ _).mono ?_); rintro e w2 ⟨he, hb2⟩; rw [hS] at he; subst he))
      go_ret
      exact ⟨rfl, (by repeat (first | (with_reducible exact bR _) | (with_reducible refine bT ?_ (by assumption)) | (with_reducible apply bA) | (with_reducible apply bD) | (with_reducible apply bN) | (with_reducible refine bS ?_ (by first | omega | (simp; done) | (simp; omega)))))⟩
    | true =>
      have hsu : 0 ≤ i ∧ i ≤ 40 := by simp only [suB, decide_eq_true_eq] at hS; omega
      obtain ⟨hi0, hi1⟩ := hsu
      by_cases hi : i = 0
      · subst hi
        have E : jouB a0 a1 a2 a3 a4 a5 a6 a7 a8 a9 a10 l 0 = true := by simp [jouB, hT, hS]
        rw [E]
        clear E
        go_enter Try.func42, Try.ntmps42
        go_wp2_with (first
      | (go_at_call 81; (with_reducible refine (tk_any _ _ _ _ _ _ _ _ _ _ _ _).mono ?_); rintro e w1 ⟨he, hb1⟩; rw [hT] at he; subst he; obtain ⟨hc1, hf1⟩ := bcell hb1; have hz1 : w.heap.size + 1 < w1.heap.size := (by have := hb1.size; (try simp at this); omega); have hz1' : w.heap.size < w1.heap.size := (by omega))
      | (go_at_call 82; (with_reducible refine (suits_any _ _ _ _ _ _ _ _ _ _ _ l _ _).mono ?_); rintro e w2 ⟨he, hb2⟩; rw [hS] at he; subst he; obtain ⟨hc2, hf2⟩ := bcell hb2; have hz2 : w.heap.size + 1 < w2.heap.size := (by have := hb2.size; (try simp at this); omega); have hz2' : w.heap.size < w2.heap.size := (by omega))
      | (go_at_call 83; (with_reducible refine (HC _).mono ?_); rintro e w3 ⟨rfl, hb3⟩; obtain ⟨hc3, hf3⟩ := bcell hb3; have hz3 : w.heap.size + 1 < w3.heap.size := (by have := hb3.size; (try simp at this); omega); have hz3' : w.heap.size < w3.heap.size := (by omega)))
        go_ret
        exact ⟨rfl, (by repeat (first | (with_reducible exact bR _) | (with_reducible refine bT ?_ (by assumption)) | (with_reducible apply bA) | (with_reducible apply bD) | (with_reducible apply bN) | (with_reducible refine bS ?_ (by first | omega | (simp; done) | (simp; omega)))))⟩
      · have hiz : (i == 0) = false := by simpa using hi
        have HC := fun W => covers_any a0 a1 a2 a3 a4 a5 a6 a7 a8 a9 a10 (i - 1) W hT (by omega) (by omega)
        have E : jouB a0 a1 a2 a3 a4 a5 a6 a7 a8 a9 a10 l i = (covB a1 a2 a3 (i - 1) && (a1 == 3 || decide (l < a9))) := by simp [jouB, hT, hS, hi]
        have HE := Lib.hid E
        clear E hi
        have ew : IntKind.i64.wrap (i - 1) = i - 1 := IntWalk.i64_in _ (by omega)
        cases hcv : covB a1 a2 a3 (i - 1)
        all_goals rw [hcv] at HC
        · go_enter Try.func42, Try.ntmps42
          go_wp2_with (first
      | (go_at_call 81; (with_reducible refine (tk_any _ _ _ _ _ _ _ _ _ _ _ _).mono ?_); rintro e w1 ⟨he, hb1⟩; rw [hT] at he; subst he; obtain ⟨hc1, hf1⟩ := bcell hb1; have hz1 : w.heap.size + 1 < w1.heap.size := (by have := hb1.size; (try simp at this); omega); have hz1' : w.heap.size < w1.heap.size := (by omega))
      | (go_at_call 82; (with_reducible refine (suits_any _ _ _ _ _ _ _ _ _ _ _ l _ _).mono ?_); rintro e w2 ⟨he, hb2⟩; rw [hS] at he; subst he; obtain ⟨hc2, hf2⟩ := bcell hb2; have hz2 : w.heap.size + 1 < w2.heap.size := (by have := hb2.size; (try simp at this); omega); have hz2' : w.heap.size < w2.heap.size := (by omega))
      | (go_at_call 83; (with_reducible refine (HC _).mono ?_); rintro e w3 ⟨rfl, hb3⟩; obtain ⟨hc3, hf3⟩ := bcell hb3; have hz3 : w.heap.size + 1 < w3.heap.size := (by have := hb3.size; (try simp at this); omega); have hz3' : w.heap.size < w3.heap.size := (by omega)))
          go_ret
          exact ⟨by rw [HE.out, hcv] <;> rfl, (by repeat (first | (with_reducible exact bR _) | (with_reducible refine bT ?_ (by assumption)) | (with_reducible apply bA) | (with_reducible apply bD) | (with_reducible apply bN) | (with_reducible refine bS ?_ (by first | omega | (simp; done) | (simp; omega)))))⟩
        · cases hk : (a1 == 3)
          · cases hl : decide (l < a9)
            all_goals
              go_enter Try.func42, Try.ntmps42
              go_wp2_with (first
      | (go_at_call 81; (with_reducible refine (tk_any _ _ _ _ _ _ _ _ _ _ _ _).mono ?_); rintro e w1 ⟨he, hb1⟩; rw [hT] at he; subst he; obtain ⟨hc1, hf1⟩ := bcell hb1; have hz1 : w.heap.size + 1 < w1.heap.size := (by have := hb1.size; (try simp at this); omega); have hz1' : w.heap.size < w1.heap.size := (by omega))
      | (go_at_call 82; (with_reducible refine (suits_any _ _ _ _ _ _ _ _ _ _ _ l _ _).mono ?_); rintro e w2 ⟨he, hb2⟩; rw [hS] at he; subst he; obtain ⟨hc2, hf2⟩ := bcell hb2; have hz2 : w.heap.size + 1 < w2.heap.size := (by have := hb2.size; (try simp at this); omega); have hz2' : w.heap.size < w2.heap.size := (by omega))
      | (go_at_call 83; (with_reducible refine (HC _).mono ?_); rintro e w3 ⟨rfl, hb3⟩; obtain ⟨hc3, hf3⟩ := bcell hb3; have hz3 : w.heap.size + 1 < w3.heap.size := (by have := hb3.size; (try simp at this); omega); have hz3' : w.heap.size < w3.heap.size := (by omega)))
              go_ret
              exact ⟨by rw [HE.out, hcv, hk, hl] <;> rfl, (by repeat (first | (with_reducible exact bR _) | (with_reducible refine bT ?_ (by assumption)) | (with_reducible apply bA) | (with_reducible apply bD) | (with_reducible apply bN) | (with_reducible refine bS ?_ (by first | omega | (simp; done) | (simp; omega)))))⟩
          · go_enter Try.func42, Try.ntmps42
            go_wp2_with (first
      | (go_at_call 81; (with_reducible refine (tk_any _ _ _ _ _ _ _ _ _ _ _ _).mono ?_); rintro e w1 ⟨he, hb1⟩; rw [hT] at he; subst he; obtain ⟨hc1, hf1⟩ := bcell hb1; have hz1 : w.heap.size + 1 < w1.heap.size := (by have := hb1.size; (try simp at this); omega); have hz1' : w.heap.size < w1.heap.size := (by omega))
      | (go_at_call 82; (with_reducible refine (suits_any _ _ _ _ _ _ _ _ _ _ _ l _ _).mono ?_); rintro e w2 ⟨he, hb2⟩; rw [hS] at he; subst he; obtain ⟨hc2, hf2⟩ := bcell hb2; have hz2 : w.heap.size + 1 < w2.heap.size := (by have := hb2.size; (try simp at this); omega); have hz2' : w.heap.size < w2.heap.size := (by omega))
      | (go_at_call 83; (with_reducible refine (HC _).mono ?_); rintro e w3 ⟨rfl, hb3⟩; obtain ⟨hc3, hf3⟩ := bcell hb3; have hz3 : w.heap.size + 1 < w3.heap.size := (by have := hb3.size; (try simp at this); omega); have hz3' : w.heap.size < w3.heap.size := (by omega)))
            go_ret
            exact ⟨by rw [HE.out, hcv, hk] <;> rfl, (by repeat (first | (with_reducible exact bR _) | (with_reducible refine bT ?_ (by assumption)) | (with_reducible apply bA) | (with_reducible apply bD) | (with_reducible apply bN) | (with_reducible refine bS ?_ (by first | omega | (simp; done) | (simp; omega)))))⟩
end Go.Proofs.Ytpmfmkkifkpdcaa
