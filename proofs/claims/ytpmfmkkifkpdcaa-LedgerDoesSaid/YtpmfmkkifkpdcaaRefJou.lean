/- Layers 7, 9, 23, the reference's side: zones, between, covers, a right journey. No condition. -/
import Derived.Test.YtpmfmkkifkpdcaaJou
import Derived.Test.YtpmfmkkifkpdcaaTickRef
namespace Go.Proofs.Ytpmfmkkifkpdcaa
open Go.RowKit
set_option linter.unusedVariables false
set_option maxRecDepth 100000
set_option linter.unusedSimpArgs false

theorem refZone_any (s : Int) (w : World) (h0 : 0 ≤ s) (h1 : s ≤ 39) :
    Calls Try.prog 137 #[.int .i64 s] w fun e w' => e = .returned (.tuple #[.int .i64 (zoneN s), .int .i64 0]) ∧ w = w' := by
  have hs : wB s 0 39 = true := wB_mk h0 h1
  by_cases h : s < 20
  · have E := Lib.hid (show zoneN s = 1 + (20 - s) / 4 by unfold zoneN; rw [if_pos h])
    have hq : (20 - s) / 4 ≤ 5 := by omega
    have hq0 : 0 ≤ (20 - s) / 4 := by omega
    go_enter Try.func137, Try.ntmps137
    go_wp2_with (go_at_call 180; refine (ref07Is_any _ _).mono ?_; rintro e w' ⟨he, rfl⟩; rw [hs] at he; subst he)
    go_ret2
    exact ⟨by rw [E.out] <;> rfl, rfl⟩
  · have E := Lib.hid (show zoneN s = 1 + (s - 20) / 4 by unfold zoneN; rw [if_neg h])
    have hq : (s - 20) / 4 ≤ 5 := by omega
    have hq0 : 0 ≤ (s - 20) / 4 := by omega
    have d : decide (s < 20) = false := by simpa using h
    go_enter Try.func137, Try.ntmps137
    go_wp2_with (go_at_call 180; refine (ref07Is_any _ _).mono ?_; rintro e w' ⟨he, rfl⟩; rw [hs] at he; subst he)
    go_ret2
    exact ⟨by rw [E.out] <;> rfl, rfl⟩
theorem bet_or {a b s : Int} : betB a b s = ((decide (a ≤ s) && decide (s ≤ b)) || (decide (b ≤ s) && decide (s ≤ a))) := by
  unfold betB
  rw [Bool.eq_iff_iff]
  simp only [Bool.and_eq_true, Bool.or_eq_true, decide_eq_true_eq]
  omega
set_option maxHeartbeats 2000000 in
theorem refBet_any (a b s : Int) (w : World) (ha : wB a 0 39 = true) (hb : wB b 0 39 = true) (hs : wB s 0 39 = true) :
    Calls Try.prog 138 #[.int .i64 a, .int .i64 b, .int .i64 s] w fun e w' => e = .returned (.tuple #[.bool (betB a b s), .int .i64 0]) ∧ w = w' := by
  have E := Lib.hid (bet_or (a := a) (b := b) (s := s))
  cases d1 : decide (a ≤ s) <;> cases d2 : decide (s ≤ b) <;> cases d3 : decide (b ≤ s)
  all_goals
    go_enter Try.func138, Try.ntmps138
    go_wp2_with (go_at_call 180; refine (ref07Is_any _ _).mono ?_; rintro e w' ⟨rfl, rfl⟩)
    all_goals (go_ret2; exact ⟨by rw [E.out, d1, d2, d3] <;> simp, rfl⟩)
set_option maxHeartbeats 4000000 in
theorem refCovers_any (a0 a1 a2 a3 a4 a5 a6 a7 a8 a9 a10 s : Int) (w : World) (hT : tkB a0 a1 a2 a3 a4 a5 a6 a7 a8 a9 a10 = true) (hs0 : 0 ≤ s) (hs1 : s ≤ 39) :
    Calls Try.prog 86 #[.agg #[.int .i64 a0, .int .i64 a1, .int .i64 a2, .int .i64 a3, .int .i64 a4, .int .i64 a5, .int .i64 a6, .int .i64 a7, .int .i64 a8, .int .i64 a9, .int .i64 a10], .int .i64 s] w fun e w' => e = .returned (.tuple #[.bool (covB a1 a2 a3 s), .int .i64 0]) ∧ Below w.heap.size w w' := by
  have hpl := tk_place hT
  by_cases hk : a1 = 3
  · have d : (a1 == 3) = true := by simpa using hk
    have E := Lib.hid (show covB a1 a2 a3 s = wB (zoneN s) a2 a3 by simp [covB, hk])
    clear hpl hk
    cases d1 : decide (a2 ≤ zoneN s) <;> cases d2 : decide (zoneN s ≤ a3)
    all_goals
      go_enter Try.func86, Try.ntmps86
      go_wp2_with (first
        | (go_at_call 137; (with_reducible refine (refZone_any s _ hs0 hs1).mono ?_); rintro e w1 ⟨rfl, rfl⟩)
        | (go_at_call 84; (with_reducible refine (refIs_any _ _ _ _ _ _ _ _ _ _ _ _).mono ?_); rintro e w2 ⟨he, hb2⟩; rw [hT] at he; subst he; obtain ⟨hc2, hf2⟩ := bcell hb2))
      all_goals (go_ret2; exact ⟨by rw [E.out] <;> simp [wB, d1, d2], (by repeat (first | (with_reducible exact bR _) | (with_reducible refine bT ?_ (by assumption)) | (with_reducible apply bA) | (with_reducible apply bD) | (with_reducible apply bN) | (with_reducible refine bS ?_ (by first | omega | (simp; done) | (simp; omega)))))⟩)
  · have d : (a1 == 3) = false := by simpa using hk
    have E := Lib.hid (show covB a1 a2 a3 s = betB a2 a3 s by simp [covB, hk])
    have hw : wayB a2 a3 = true := by rw [← hpl]; simp [placeB, hk]
    unfold wayB at hw
    simp only [Bool.and_eq_true, and_assoc] at hw
    obtain ⟨ha, hb, _⟩ := hw
    have hss := wB_mk hs0 hs1
    clear hpl hk
    go_enter Try.func86, Try.ntmps86
    go_wp2_with (first
      | (go_at_call 137; (with_reducible refine (refZone_any s _ hs0 hs1).mono ?_); rintro e w1 ⟨rfl, rfl⟩)
      | (go_at_call 84; (with_reducible refine (refIs_any _ _ _ _ _ _ _ _ _ _ _ _).mono ?_); rintro e w2 ⟨he, hb2⟩; rw [hT] at he; subst he; obtain ⟨hc2, hf2⟩ := bcell hb2)
      | (go_at_call 138; (with_reducible refine (refBet_any a2 a3 s _ ha hb hss).mono ?_); rintro e w3 ⟨rfl, rfl⟩))
    go_ret2
    exact ⟨by rw [E.out] <;> rfl, (by repeat (first | (with_reducible exact bR _) | (with_reducible refine bT ?_ (by assumption)) | (with_reducible apply bA) | (with_reducible apply bD) | (with_reducible apply bN) | (with_reducible refine bS ?_ (by first | omega | (simp; done) | (simp; omega)))))⟩


set_option maxHeartbeats 8000000 in
theorem refJou_any (a0 a1 a2 a3 a4 a5 a6 a7 a8 a9 a10 l i : Int) (w : World) :
    Calls Try.prog 43 #[.agg #[.int .i64 a0, .int .i64 a1, .int .i64 a2, .int .i64 a3, .int .i64 a4, .int .i64 a5, .int .i64 a6, .int .i64 a7, .int .i64 a8, .int .i64 a9, .int .i64 a10], .agg #[.int .i64 l, .int .i64 i]] w fun e w' => e = .returned (.bool (jouB a0 a1 a2 a3 a4 a5 a6 a7 a8 a9 a10 l i)) ∧ Below w.heap.size w w' := by
  have hz0 : w.heap.size + 1 < ((w.alloc (.cells #[.int .i64 a0, .int .i64 a1, .int .i64 a2, .int .i64 a3, .int .i64 a4, .int .i64 a5, .int .i64 a6, .int .i64 a7, .int .i64 a8, .int .i64 a9, .int .i64 a10] 33)).alloc (.cells #[.int .i64 l, .int .i64 i] 35)).heap.size := by simp
  cases hT : tkB a0 a1 a2 a3 a4 a5 a6 a7 a8 a9 a10 with
  | false =>
    have E : jouB a0 a1 a2 a3 a4 a5 a6 a7 a8 a9 a10 l i = false := by simp [jouB, hT]
    rw [E]
    clear E
    go_enter Try.func43, Try.ntmps43
    go_wp2_with (go_at_call 84; (with_reducible refine (refIs_any _ _ _ _ _ _ _ _ _ _ _ _).mono ?_); rintro e w1 ⟨he, hb1⟩; rw [hT] at he; subst he)
    go_ret
    exact ⟨rfl, (by repeat (first | (with_reducible exact bR _) | (with_reducible refine bT ?_ (by assumption)) | (with_reducible apply bA) | (with_reducible apply bD) | (with_reducible apply bN) | (with_reducible refine bS ?_ (by first | omega | (simp; done) | (simp; omega)))))⟩
  | true =>
    cases hS : suB a9 l i with
    | false =>
      have E : jouB a0 a1 a2 a3 a4 a5 a6 a7 a8 a9 a10 l i = false := by simp [jouB, hS]
      rw [E]
      clear E
      go_enter Try.func43, Try.ntmps43
      go_wp2_with (first
        | (go_at_call 84; (with_reducible refine (refIs_any _ _ _ _ _ _ _ _ _ _ _ _).mono ?_); rintro e w1 ⟨he, hb1⟩; rw [hT] at he; subst he; obtain ⟨hc1, hf1⟩ := bcell hb1)
        | (go_at_call 85; (with_reducible refine (refSuits_any _ _ _ _ _ _ _ _ _ _ _ l _ _).mono ?_); rintro e w2 ⟨he, hb2⟩; rw [hS] at he; subst he))
      go_ret
      exact ⟨rfl, (by repeat (first | (with_reducible exact bR _) | (with_reducible refine bT ?_ (by assumption)) | (with_reducible apply bA) | (with_reducible apply bD) | (with_reducible apply bN) | (with_reducible refine bS ?_ (by first | omega | (simp; done) | (simp; omega)))))⟩
    | true =>
      have hsu : 0 ≤ i ∧ i ≤ 40 := by simp only [suB, decide_eq_true_eq] at hS; omega
      obtain ⟨hi0, hi1⟩ := hsu
      by_cases hi : i = 0
      · subst hi
        have E : jouB a0 a1 a2 a3 a4 a5 a6 a7 a8 a9 a10 l 0 = true := by simp [jouB, hT, hS]
        rw [E]
        clear E
        go_enter Try.func43, Try.ntmps43
        go_wp2_with (first
      | (go_at_call 84; (with_reducible refine (refIs_any _ _ _ _ _ _ _ _ _ _ _ _).mono ?_); rintro e w1 ⟨he, hb1⟩; rw [hT] at he; subst he; obtain ⟨hc1, hf1⟩ := bcell hb1; have hz1 : w.heap.size + 1 < w1.heap.size := (by have := hb1.size; (try simp at this); omega); have hz1' : w.heap.size < w1.heap.size := (by omega))
      | (go_at_call 85; (with_reducible refine (refSuits_any _ _ _ _ _ _ _ _ _ _ _ l _ _).mono ?_); rintro e w2 ⟨he, hb2⟩; rw [hS] at he; subst he; obtain ⟨hc2, hf2⟩ := bcell hb2; have hz2 : w.heap.size + 1 < w2.heap.size := (by have := hb2.size; (try simp at this); omega); have hz2' : w.heap.size < w2.heap.size := (by omega))
      | (go_at_call 86; (with_reducible refine (HC _).mono ?_); rintro e w3 ⟨rfl, hb3⟩; obtain ⟨hc3, hf3⟩ := bcell hb3; have hz3 : w.heap.size + 1 < w3.heap.size := (by have := hb3.size; (try simp at this); omega); have hz3' : w.heap.size < w3.heap.size := (by omega)))
        go_ret
        exact ⟨rfl, (by repeat (first | (with_reducible exact bR _) | (with_reducible refine bT ?_ (by assumption)) | (with_reducible apply bA) | (with_reducible apply bD) | (with_reducible apply bN) | (with_reducible refine bS ?_ (by first | omega | (simp; done) | (simp; omega)))))⟩
      · have hiz : (i == 0) = false := by simpa using hi
        have HC := fun W => refCovers_any a0 a1 a2 a3 a4 a5 a6 a7 a8 a9 a10 (i - 1) W hT (by omega) (by omega)
        have E : jouB a0 a1 a2 a3 a4 a5 a6 a7 a8 a9 a10 l i = (covB a1 a2 a3 (i - 1) && (a1 == 3 || decide (l < a9))) := by simp [jouB, hT, hS, hi]
        have HE := Lib.hid E
        clear E hi
        have ew : IntKind.i64.wrap (i - 1) = i - 1 := IntWalk.i64_in _ (by omega)
        cases hcv : covB a1 a2 a3 (i - 1)
        all_goals rw [hcv] at HC
        · go_enter Try.func43, Try.ntmps43
          go_wp2_with (first
      | (go_at_call 84; (with_reducible refine (refIs_any _ _ _ _ _ _ _ _ _ _ _ _).mono ?_); rintro e w1 ⟨he, hb1⟩; rw [hT] at he; subst he; obtain ⟨hc1, hf1⟩ := bcell hb1; have hz1 : w.heap.size + 1 < w1.heap.size := (by have := hb1.size; (try simp at this); omega); have hz1' : w.heap.size < w1.heap.size := (by omega))
      | (go_at_call 85; (with_reducible refine (refSuits_any _ _ _ _ _ _ _ _ _ _ _ l _ _).mono ?_); rintro e w2 ⟨he, hb2⟩; rw [hS] at he; subst he; obtain ⟨hc2, hf2⟩ := bcell hb2; have hz2 : w.heap.size + 1 < w2.heap.size := (by have := hb2.size; (try simp at this); omega); have hz2' : w.heap.size < w2.heap.size := (by omega))
      | (go_at_call 86; (with_reducible refine (HC _).mono ?_); rintro e w3 ⟨rfl, hb3⟩; obtain ⟨hc3, hf3⟩ := bcell hb3; have hz3 : w.heap.size + 1 < w3.heap.size := (by have := hb3.size; (try simp at this); omega); have hz3' : w.heap.size < w3.heap.size := (by omega)))
          go_ret
          exact ⟨by rw [HE.out, hcv] <;> rfl, (by repeat (first | (with_reducible exact bR _) | (with_reducible refine bT ?_ (by assumption)) | (with_reducible apply bA) | (with_reducible apply bD) | (with_reducible apply bN) | (with_reducible refine bS ?_ (by first | omega | (simp; done) | (simp; omega)))))⟩
        · cases hk : (a1 == 3)
          · cases hl : decide (l < a9)
            all_goals
              go_enter Try.func43, Try.ntmps43
              go_wp2_with (first
      | (go_at_call 84; (with_reducible refine (refIs_any _ _ _ _ _ _ _ _ _ _ _ _).mono ?_); rintro e w1 ⟨he, hb1⟩; rw [hT] at he; subst he; obtain ⟨hc1, hf1⟩ := bcell hb1; have hz1 : w.heap.size + 1 < w1.heap.size := (by have := hb1.size; (try simp at this); omega); have hz1' : w.heap.size < w1.heap.size := (by omega))
      | (go_at_call 85; (with_reducible refine (refSuits_any _ _ _ _ _ _ _ _ _ _ _ l _ _).mono ?_); rintro e w2 ⟨he, hb2⟩; rw [hS] at he; subst he; obtain ⟨hc2, hf2⟩ := bcell hb2; have hz2 : w.heap.size + 1 < w2.heap.size := (by have := hb2.size; (try simp at this); omega); have hz2' : w.heap.size < w2.heap.size := (by omega))
      | (go_at_call 86; (with_reducible refine (HC _).mono ?_); rintro e w3 ⟨rfl, hb3⟩; obtain ⟨hc3, hf3⟩ := bcell hb3; have hz3 : w.heap.size + 1 < w3.heap.size := (by have := hb3.size; (try simp at this); omega); have hz3' : w.heap.size < w3.heap.size := (by omega)))
              go_ret
              exact ⟨by rw [HE.out, hcv, hk, hl] <;> rfl, (by repeat (first | (with_reducible exact bR _) | (with_reducible refine bT ?_ (by assumption)) | (with_reducible apply bA) | (with_reducible apply bD) | (with_reducible apply bN) | (with_reducible refine bS ?_ (by first | omega | (simp; done) | (simp; omega)))))⟩
          · go_enter Try.func43, Try.ntmps43
            go_wp2_with (first
      | (go_at_call 84; (with_reducible refine (refIs_any _ _ _ _ _ _ _ _ _ _ _ _).mono ?_); rintro e w1 ⟨he, hb1⟩; rw [hT] at he; subst he; obtain ⟨hc1, hf1⟩ := bcell hb1; have hz1 : w.heap.size + 1 < w1.heap.size := (by have := hb1.size; (try simp at this); omega); have hz1' : w.heap.size < w1.heap.size := (by omega))
      | (go_at_call 85; (with_reducible refine (refSuits_any _ _ _ _ _ _ _ _ _ _ _ l _ _).mono ?_); rintro e w2 ⟨he, hb2⟩; rw [hS] at he; subst he; obtain ⟨hc2, hf2⟩ := bcell hb2; have hz2 : w.heap.size + 1 < w2.heap.size := (by have := hb2.size; (try simp at this); omega); have hz2' : w.heap.size < w2.heap.size := (by omega))
      | (go_at_call 86; (with_reducible refine (HC _).mono ?_); rintro e w3 ⟨rfl, hb3⟩; obtain ⟨hc3, hf3⟩ := bcell hb3; have hz3 : w.heap.size + 1 < w3.heap.size := (by have := hb3.size; (try simp at this); omega); have hz3' : w.heap.size < w3.heap.size := (by omega)))
            go_ret
            exact ⟨by rw [HE.out, hcv, hk] <;> rfl, (by repeat (first | (with_reducible exact bR _) | (with_reducible refine bT ?_ (by assumption)) | (with_reducible apply bA) | (with_reducible apply bD) | (with_reducible apply bN) | (with_reducible refine bS ?_ (by first | omega | (simp; done) | (simp; omega)))))⟩

end Go.Proofs.Ytpmfmkkifkpdcaa
