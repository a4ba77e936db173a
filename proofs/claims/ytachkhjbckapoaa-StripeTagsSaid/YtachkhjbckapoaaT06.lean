/- Tickets: what package ticket and its reference compute of one ticket is one Bool, tkB, for every eleven numbers. No condition. -/
import Derived.Test.YtachkhjbckapoaaT00
import Derived.Deep.QuietTactic
import Derived.BigQuiet
namespace Go.Proofs.Ytachkhjbckapoaa
open Go.RowKit
set_option linter.unusedVariables false
set_option maxRecDepth 100000
set_option linter.unusedSimpArgs false

def zonesB (a2 a3 : Int) : Bool := wB a2 1 6 && wB a3 a2 6
def wayB (a2 a3 : Int) : Bool := (wB a2 0 39 && wB a3 0 39) && (a2 != a3)
def usesB (a1 a9 : Int) : Bool := if a1 = 1 then a9 == 1 else if a1 = 2 then a9 == 2 else if a1 = 3 then a9 == 0 else wB a9 2 20
def placeB (a1 a2 a3 : Int) : Bool := if a1 = 3 then zonesB a2 a3 else wayB a2 a3
def tkB (a0 a1 a2 a3 a4 a5 a6 a7 a8 a9 a10 : Int) : Bool := wB a0 1 1099511627776 && wB a1 1 4 && wB a4 1 2 && wB a5 0 3 && wB a6 0 999 && wB a7 0 99999 && wB a8 1 999 && decide (a7 + a8 ≤ 100000) && wB a10 0 9 && placeB a1 a2 a3 && usesB a1 a9

theorem tkS_below {g : Nat} {W w9 : World} {a0 a1 a2 a3 a4 a5 a6 a7 a8 a9 a10 : Int} (h : g < W.heap.size ∧ W.cell? ⟨g, 0, none⟩ = some (.int .i64 a0) ∧ W.cell? ⟨g, 1, none⟩ = some (.int .i64 a1) ∧ W.cell? ⟨g, 2, none⟩ = some (.int .i64 a2) ∧ W.cell? ⟨g, 3, none⟩ = some (.int .i64 a3) ∧ W.cell? ⟨g, 4, none⟩ = some (.int .i64 a4) ∧ W.cell? ⟨g, 5, none⟩ = some (.int .i64 a5) ∧ W.cell? ⟨g, 6, none⟩ = some (.int .i64 a6) ∧ W.cell? ⟨g, 7, none⟩ = some (.int .i64 a7) ∧ W.cell? ⟨g, 8, none⟩ = some (.int .i64 a8) ∧ W.cell? ⟨g, 9, none⟩ = some (.int .i64 a9) ∧ W.cell? ⟨g, 10, none⟩ = some (.int .i64 a10)) (hb : Below W.heap.size W w9) : g < w9.heap.size ∧ w9.cell? ⟨g, 0, none⟩ = some (.int .i64 a0) ∧ w9.cell? ⟨g, 1, none⟩ = some (.int .i64 a1) ∧ w9.cell? ⟨g, 2, none⟩ = some (.int .i64 a2) ∧ w9.cell? ⟨g, 3, none⟩ = some (.int .i64 a3) ∧ w9.cell? ⟨g, 4, none⟩ = some (.int .i64 a4) ∧ w9.cell? ⟨g, 5, none⟩ = some (.int .i64 a5) ∧ w9.cell? ⟨g, 6, none⟩ = some (.int .i64 a6) ∧ w9.cell? ⟨g, 7, none⟩ = some (.int .i64 a7) ∧ w9.cell? ⟨g, 8, none⟩ = some (.int .i64 a8) ∧ w9.cell? ⟨g, 9, none⟩ = some (.int .i64 a9) ∧ w9.cell? ⟨g, 10, none⟩ = some (.int .i64 a10) :=
  ⟨Nat.lt_of_lt_of_le h.1 hb.size, by have hl := h.1; obtain ⟨hc, _⟩ := bcell hb; simp only [hc g _ hl]; exact h.2⟩

theorem within_any (n a b : Int) (w : World) :
    Calls Try.prog 111 #[.int .i64 n, .int .i64 a, .int .i64 b] w fun e w' => e = .returned (.bool (wB n a b)) ∧ w = w' := by
  by_cases h : a ≤ n
  · go_enter Try.func111, Try.ntmps111
    go_wp2
    go_ret
    simp [wB, h]
  · have hd : decide (a ≤ n) = false := by simpa using h
    go_enter Try.func111, Try.ntmps111
    go_wp2
    go_ret
    simp [wB, hd]

theorem zones_any (a0 a1 a2 a3 a4 a5 a6 a7 a8 a9 a10 : Int) (w : World) :
    Calls Try.prog 113 #[.agg #[.int .i64 a0, .int .i64 a1, .int .i64 a2, .int .i64 a3, .int .i64 a4, .int .i64 a5, .int .i64 a6, .int .i64 a7, .int .i64 a8, .int .i64 a9, .int .i64 a10]] w fun e w' => e = .returned (.bool (zonesB a2 a3)) ∧ Below w.heap.size w w' := by
  go_enter Try.func113, Try.ntmps113
  go_wp2_with (go_at_call 111; refine (within_any _ _ _ _).mono ?_; rintro e w' ⟨rfl, rfl⟩)
  all_goals (go_ret; exact ⟨by simp [zonesB, *], bel1 _ _⟩)

theorem lineIs_any (s : Int) (w : World) :
    Calls Try.prog 146 #[.int .i64 s] w fun e w' => e = .returned (.bool (wB s 0 39)) ∧ w = w' := by
  by_cases h : 0 ≤ s
  · go_enter Try.func146, Try.ntmps146
    go_wp2
    go_ret
    simp [wB, h]; omega
  · have hd : decide (0 ≤ s) = false := by simpa using h
    go_enter Try.func146, Try.ntmps146
    go_wp2
    go_ret
    simp [wB, hd]

theorem way_any (a0 a1 a2 a3 a4 a5 a6 a7 a8 a9 a10 : Int) (w : World) :
    Calls Try.prog 114 #[.agg #[.int .i64 a0, .int .i64 a1, .int .i64 a2, .int .i64 a3, .int .i64 a4, .int .i64 a5, .int .i64 a6, .int .i64 a7, .int .i64 a8, .int .i64 a9, .int .i64 a10]] w fun e w' => e = .returned (.bool (wayB a2 a3)) ∧ Below w.heap.size w w' := by
  go_enter Try.func114, Try.ntmps114
  go_wp2_with (go_at_call 146; refine (lineIs_any _ _).mono ?_; rintro e w' ⟨rfl, rfl⟩)
  all_goals (go_ret; exact ⟨by simp [wayB, *], bel1 _ _⟩)

theorem uses_any (a0 a1 a2 a3 a4 a5 a6 a7 a8 a9 a10 : Int) (w : World) :
    Calls Try.prog 115 #[.agg #[.int .i64 a0, .int .i64 a1, .int .i64 a2, .int .i64 a3, .int .i64 a4, .int .i64 a5, .int .i64 a6, .int .i64 a7, .int .i64 a8, .int .i64 a9, .int .i64 a10]] w fun e w' => e = .returned (.bool (usesB a1 a9)) ∧ Below w.heap.size w w' := by
  go_enter Try.func115, Try.ntmps115
  go_wp2_with (go_at_call 111; refine (within_any _ _ _ _).mono ?_; rintro e w' ⟨rfl, rfl⟩)
  all_goals (go_ret; exact ⟨by simp_all [usesB], bel1 _ _⟩)

theorem of_any (a0 a1 a2 a3 a4 a5 a6 a7 a8 a9 a10 : Int) (w : World) :
    Calls Try.prog 112 #[.agg #[.int .i64 a0, .int .i64 a1, .int .i64 a2, .int .i64 a3, .int .i64 a4, .int .i64 a5, .int .i64 a6, .int .i64 a7, .int .i64 a8, .int .i64 a9, .int .i64 a10], .func (.func 113) #[.agg #[.int .i64 a0, .int .i64 a1, .int .i64 a2, .int .i64 a3, .int .i64 a4, .int .i64 a5, .int .i64 a6, .int .i64 a7, .int .i64 a8, .int .i64 a9, .int .i64 a10]] #[], .func (.func 114) #[.agg #[.int .i64 a0, .int .i64 a1, .int .i64 a2, .int .i64 a3, .int .i64 a4, .int .i64 a5, .int .i64 a6, .int .i64 a7, .int .i64 a8, .int .i64 a9, .int .i64 a10]] #[]] w fun e w' => e = .returned (.bool (placeB a1 a2 a3)) ∧ Below w.heap.size w w' := by
  go_enter Try.func112, Try.ntmps112
  go_wp2_with (first | ((with_reducible refine (zones_any _ _ _ _ _ _ _ _ _ _ _ _).mono ?_); rintro e w' ⟨rfl, hb⟩) | ((with_reducible refine (way_any _ _ _ _ _ _ _ _ _ _ _ _).mono ?_); rintro e w' ⟨rfl, hb⟩))
  all_goals (go_ret; exact ⟨by simp_all [placeB], (bel1 _ _).trans (hb.mono (by simp))⟩)

set_option maxHeartbeats 4000000 in
set_option maxRecDepth 100000 in
theorem tk_any (a0 a1 a2 a3 a4 a5 a6 a7 a8 a9 a10 : Int) (w : World) :
    Calls Try.prog 72 #[.agg #[.int .i64 a0, .int .i64 a1, .int .i64 a2, .int .i64 a3, .int .i64 a4, .int .i64 a5, .int .i64 a6, .int .i64 a7, .int .i64 a8, .int .i64 a9, .int .i64 a10]] w fun e w' => e = .returned (.bool (tkB a0 a1 a2 a3 a4 a5 a6 a7 a8 a9 a10)) ∧ Below w.heap.size w w' := by
  have hmf : ∀ (fn : Fn) (first cap : Array Value) (w : World), (Instr.makeFunc fn first cap).run Try.prog w = .ok (.func fn first cap) w := fun _ _ _ _ => rfl
  cases c0 : wB a0 1 1099511627776 with
  | false =>
    go_enter Try.func72, Try.ntmps72
    go_wp2_with (go_at_call 111; refine (within_any _ _ _ _).mono ?_; rintro e w' ⟨rfl, rfl⟩)
    go_ret
    exact ⟨by simp [tkB, *], (by repeat (first | (with_reducible exact bR _) | (with_reducible refine bT ?_ (by assumption)) | (with_reducible apply bA) | (with_reducible apply bD) | (with_reducible apply bN) | (with_reducible refine bS ?_ (by first | omega | (simp; done) | (simp; omega)))))⟩
  | true =>
  cases c1 : wB a1 1 4 with
  | false =>
    go_enter Try.func72, Try.ntmps72
    go_wp2_with (go_at_call 111; refine (within_any _ _ _ _).mono ?_; rintro e w' ⟨rfl, rfl⟩)
    go_ret
    exact ⟨by simp [tkB, *], (by repeat (first | (with_reducible exact bR _) | (with_reducible refine bT ?_ (by assumption)) | (with_reducible apply bA) | (with_reducible apply bD) | (with_reducible apply bN) | (with_reducible refine bS ?_ (by first | omega | (simp; done) | (simp; omega)))))⟩
  | true =>
  cases c2 : wB a4 1 2 with
  | false =>
    go_enter Try.func72, Try.ntmps72
    go_wp2_with (go_at_call 111; refine (within_any _ _ _ _).mono ?_; rintro e w' ⟨rfl, rfl⟩)
    go_ret
    exact ⟨by simp [tkB, *], (by repeat (first | (with_reducible exact bR _) | (with_reducible refine bT ?_ (by assumption)) | (with_reducible apply bA) | (with_reducible apply bD) | (with_reducible apply bN) | (with_reducible refine bS ?_ (by first | omega | (simp; done) | (simp; omega)))))⟩
  | true =>
  cases c3 : wB a5 0 3 with
  | false =>
    go_enter Try.func72, Try.ntmps72
    go_wp2_with (go_at_call 111; refine (within_any _ _ _ _).mono ?_; rintro e w' ⟨rfl, rfl⟩)
    go_ret
    exact ⟨by simp [tkB, *], (by repeat (first | (with_reducible exact bR _) | (with_reducible refine bT ?_ (by assumption)) | (with_reducible apply bA) | (with_reducible apply bD) | (with_reducible apply bN) | (with_reducible refine bS ?_ (by first | omega | (simp; done) | (simp; omega)))))⟩
  | true =>
  cases c4 : wB a6 0 999 with
  | false =>
    go_enter Try.func72, Try.ntmps72
    go_wp2_with (go_at_call 111; refine (within_any _ _ _ _).mono ?_; rintro e w' ⟨rfl, rfl⟩)
    go_ret
    exact ⟨by simp [tkB, *], (by repeat (first | (with_reducible exact bR _) | (with_reducible refine bT ?_ (by assumption)) | (with_reducible apply bA) | (with_reducible apply bD) | (with_reducible apply bN) | (with_reducible refine bS ?_ (by first | omega | (simp; done) | (simp; omega)))))⟩
  | true =>
  cases c5 : wB a7 0 99999 with
  | false =>
    go_enter Try.func72, Try.ntmps72
    go_wp2_with (go_at_call 111; refine (within_any _ _ _ _).mono ?_; rintro e w' ⟨rfl, rfl⟩)
    go_ret
    exact ⟨by simp [tkB, *], (by repeat (first | (with_reducible exact bR _) | (with_reducible refine bT ?_ (by assumption)) | (with_reducible apply bA) | (with_reducible apply bD) | (with_reducible apply bN) | (with_reducible refine bS ?_ (by first | omega | (simp; done) | (simp; omega)))))⟩
  | true =>
  cases c6 : wB a8 1 999 with
  | false =>
    go_enter Try.func72, Try.ntmps72
    go_wp2_with (go_at_call 111; refine (within_any _ _ _ _).mono ?_; rintro e w' ⟨rfl, rfl⟩)
    go_ret
    exact ⟨by simp [tkB, *], (by repeat (first | (with_reducible exact bR _) | (with_reducible refine bT ?_ (by assumption)) | (with_reducible apply bA) | (with_reducible apply bD) | (with_reducible apply bN) | (with_reducible refine bS ?_ (by first | omega | (simp; done) | (simp; omega)))))⟩
  | true =>
  obtain ⟨h5a, h5b⟩ := wB_iff c5; obtain ⟨h6a, h6b⟩ := wB_iff c6
  by_cases c7 : 100000 < a7 + a8
  · go_enter Try.func72, Try.ntmps72
    go_wp2_with (go_at_call 111; refine (within_any _ _ _ _).mono ?_; rintro e w' ⟨rfl, rfl⟩)
    go_ret
    exact ⟨by simp [tkB, show ¬ (a7 + a8 ≤ 100000) by omega], (by repeat (first | (with_reducible exact bR _) | (with_reducible refine bT ?_ (by assumption)) | (with_reducible apply bA) | (with_reducible apply bD) | (with_reducible apply bN) | (with_reducible refine bS ?_ (by first | omega | (simp; done) | (simp; omega)))))⟩
  cases c8 : wB a10 0 9 with
  | false =>
    go_enter Try.func72, Try.ntmps72
    go_wp2_with (go_at_call 111; refine (within_any _ _ _ _).mono ?_; rintro e w' ⟨rfl, rfl⟩)
    go_ret
    exact ⟨by simp [tkB, *], (by repeat (first | (with_reducible exact bR _) | (with_reducible refine bT ?_ (by assumption)) | (with_reducible apply bA) | (with_reducible apply bD) | (with_reducible apply bN) | (with_reducible refine bS ?_ (by first | omega | (simp; done) | (simp; omega)))))⟩
  | true =>
  have c7' : a7 + a8 ≤ 100000 := by omega
  cases c9 : placeB a1 a2 a3 with
  | false =>
    go_enter Try.func72, Try.ntmps72
    go_wp2_with (first | (go_at_call 111; refine (within_any _ _ _ _).mono ?_; rintro e w' ⟨rfl, rfl⟩) | (go_at_call 112; refine (of_any _ _ _ _ _ _ _ _ _ _ _ _).mono ?_; rintro e w' ⟨rfl, hb⟩; obtain ⟨hc, hf⟩ := bcell hb))
    go_ret
    exact ⟨by simp [tkB, *], (by repeat (first | (with_reducible exact bR _) | (with_reducible refine bT ?_ (by assumption)) | (with_reducible apply bA) | (with_reducible apply bD) | (with_reducible apply bN) | (with_reducible refine bS ?_ (by first | omega | (simp; done) | (simp; omega)))))⟩
  | true =>
    go_enter Try.func72, Try.ntmps72
    go_wp2_with (first | (go_at_call 111; refine (within_any _ _ _ _).mono ?_; rintro e w' ⟨rfl, rfl⟩) | (go_at_call 112; refine (of_any _ _ _ _ _ _ _ _ _ _ _ _).mono ?_; rintro e w' ⟨rfl, hb⟩; obtain ⟨hc, hf⟩ := bcell hb) | (go_at_call 115; refine (uses_any _ _ _ _ _ _ _ _ _ _ _ _).mono ?_; rintro e w' ⟨rfl, hb2⟩))
    go_ret
    exact ⟨by simp [tkB, *], (by repeat (first | (with_reducible exact bR _) | (with_reducible refine bT ?_ (by assumption)) | (with_reducible apply bA) | (with_reducible apply bD) | (with_reducible apply bN) | (with_reducible refine bS ?_ (by first | omega | (simp; done) | (simp; omega)))))⟩

end Go.Proofs.Ytachkhjbckapoaa
