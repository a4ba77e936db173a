/- Tickets: what package ticket and its reference compute of one ticket is one Bool, tkB, for every eleven numbers. Tickets, the reference's side: the reference of layer 9 computes tkB as well, for every eleven numbers that are int's. No condition. -/
import Derived.Test.YtnbghgenaolfgaaGreatZ00
import Derived.Deep.QuietTactic
import Derived.BigQuiet
namespace Go.Proofs.YtnbghgenaolfgaaGreat
open Go.RowKit
set_option linter.unusedVariables false
set_option maxRecDepth 100000
set_option linter.unusedSimpArgs false

def zonesB (a2 a3 : Int) : Bool := wB a2 1 6 && wB a3 a2 6
def wayB (a2 a3 : Int) : Bool := (wB a2 0 39 && wB a3 0 39) && (a2 != a3)
def usesB (a1 a9 : Int) : Bool := if a1 = 1 then a9 == 1 else if a1 = 2 then a9 == 2 else if a1 = 3 then a9 == 0 else wB a9 2 20
def placeB (a1 a2 a3 : Int) : Bool := if a1 = 3 then zonesB a2 a3 else wayB a2 a3
def tkB (a0 a1 a2 a3 a4 a5 a6 a7 a8 a9 a10 : Int) : Bool := wB a0 1 1099511627776 && wB a1 1 4 && wB a4 1 2 && wB a5 0 3 && wB a6 0 999 && wB a7 0 99999 && wB a8 1 999 && decide (a7 + a8 ≤ 100000) && wB a10 0 9 && placeB a1 a2 a3 && usesB a1 a9

theorem tkS_below {g : Nat} {W w9 : World} {a0 a1 a2 a3 a4 a5 a6 a7 a8 a9 a10 : Int} (h : g < W.heap.size ∧ W.cell? ⟨g, 0, none⟩ = some (.int .i64 a0) ∧ W.cell? ⟨g, 1, none⟩ = some (.int .i64 a1) ∧ W.cell? ⟨g, 2, none⟩ = some (.int .i64 a2) ∧ W.cell? ⟨g, 3, none⟩ = some (.int .i64 a3) ∧ W.cell? ⟨g, 4, none⟩ = some (.int .i64 a4) ∧ W.cell? ⟨g, 5, none⟩ = some (.int .i64 a5) ∧ W.cell? ⟨g, 6, none⟩ = some (.int .i64 a6) ∧ W.cell? ⟨g, 7, none⟩ = some (.int .i64 a7) ∧ W.cell? ⟨g, 8, none⟩ = some (.int .i64 a8) ∧ W.cell? ⟨g, 9, none⟩ = some (.int .i64 a9) ∧ W.cell? ⟨g, 10, none⟩ = some (.int .i64 a10)) (hb : Below W.heap.size W w9) : g < w9.heap.size ∧ w9.cell? ⟨g, 0, none⟩ = some (.int .i64 a0) ∧ w9.cell? ⟨g, 1, none⟩ = some (.int .i64 a1) ∧ w9.cell? ⟨g, 2, none⟩ = some (.int .i64 a2) ∧ w9.cell? ⟨g, 3, none⟩ = some (.int .i64 a3) ∧ w9.cell? ⟨g, 4, none⟩ = some (.int .i64 a4) ∧ w9.cell? ⟨g, 5, none⟩ = some (.int .i64 a5) ∧ w9.cell? ⟨g, 6, none⟩ = some (.int .i64 a6) ∧ w9.cell? ⟨g, 7, none⟩ = some (.int .i64 a7) ∧ w9.cell? ⟨g, 8, none⟩ = some (.int .i64 a8) ∧ w9.cell? ⟨g, 9, none⟩ = some (.int .i64 a9) ∧ w9.cell? ⟨g, 10, none⟩ = some (.int .i64 a10) :=
  ⟨Nat.lt_of_lt_of_le h.1 hb.size, by have hl := h.1; obtain ⟨hc, _⟩ := bcell hb; simp only [hc g _ hl]; exact h.2⟩

theorem within_any (n a b : Int) (w : World) :
    Calls Tryz.prog 155 #[.int .i64 n, .int .i64 a, .int .i64 b] w fun e w' => e = .returned (.bool (wB n a b)) ∧ w = w' := by
  by_cases h : a ≤ n
  · go_enter Tryz.func155, Tryz.ntmps155
    go_wp2
    go_ret
    simp [wB, h]
  · have hd : decide (a ≤ n) = false := by simpa using h
    go_enter Tryz.func155, Tryz.ntmps155
    go_wp2
    go_ret
    simp [wB, hd]

theorem zones_any (a0 a1 a2 a3 a4 a5 a6 a7 a8 a9 a10 : Int) (w : World) :
    Calls Tryz.prog 157 #[.agg #[.int .i64 a0, .int .i64 a1, .int .i64 a2, .int .i64 a3, .int .i64 a4, .int .i64 a5, .int .i64 a6, .int .i64 a7, .int .i64 a8, .int .i64 a9, .int .i64 a10]] w fun e w' => e = .returned (.bool (zonesB a2 a3)) ∧ Below w.heap.size w w' := by
  go_enter Tryz.func157, Tryz.ntmps157
  go_wp2_with (go_at_call 155; refine (within_any _ _ _ _).mono ?_; rintro e w' ⟨rfl, rfl⟩)
  all_goals (go_ret; exact ⟨by simp [zonesB, *], bel1 _ _⟩)

theorem lineIs_any (s : Int) (w : World) :
    Calls Tryz.prog 125 #[.int .i64 s] w fun e w' => e = .returned (.bool (wB s 0 39)) ∧ w = w' := by
  by_cases h : 0 ≤ s
  · go_enter Tryz.func125, Tryz.ntmps125
    go_wp2
    go_ret
    simp [wB, h]; omega
  · have hd : decide (0 ≤ s) = false := by simpa using h
    go_enter Tryz.func125, Tryz.ntmps125
    go_wp2
    go_ret
    simp [wB, hd]

theorem way_any (a0 a1 a2 a3 a4 a5 a6 a7 a8 a9 a10 : Int) (w : World) :
    Calls Tryz.prog 158 #[.agg #[.int .i64 a0, .int .i64 a1, .int .i64 a2, .int .i64 a3, .int .i64 a4, .int .i64 a5, .int .i64 a6, .int .i64 a7, .int .i64 a8, .int .i64 a9, .int .i64 a10]] w fun e w' => e = .returned (.bool (wayB a2 a3)) ∧ Below w.heap.size w w' := by
  go_enter Tryz.func158, Tryz.ntmps158
  go_wp2_with (go_at_call 125; refine (lineIs_any _ _).mono ?_; rintro e w' ⟨rfl, rfl⟩)
  all_goals (go_ret; exact ⟨by simp [wayB, *], bel1 _ _⟩)

theorem uses_any (a0 a1 a2 a3 a4 a5 a6 a7 a8 a9 a10 : Int) (w : World) :
    Calls Tryz.prog 159 #[.agg #[.int .i64 a0, .int .i64 a1, .int .i64 a2, .int .i64 a3, .int .i64 a4, .int .i64 a5, .int .i64 a6, .int .i64 a7, .int .i64 a8, .int .i64 a9, .int .i64 a10]] w fun e w' => e = .returned (.bool (usesB a1 a9)) ∧ Below w.heap.size w w' := by
  go_enter Tryz.func159, Tryz.ntmps159
  go_wp2_with (go_at_call 155; refine (within_any _ _ _ _).mono ?_; rintro e w' ⟨rfl, rfl⟩)
  all_goals (go_ret; exact ⟨by simp_all [usesB], bel1 _ _⟩)

theorem of_any (a0 a1 a2 a3 a4 a5 a6 a7 a8 a9 a10 : Int) (w : World) :
    Calls Tryz.prog 156 #[.agg #[.int .i64 a0, .int .i64 a1, .int .i64 a2, .int .i64 a3, .int .i64 a4, .int .i64 a5, .int .i64 a6, .int .i64 a7, .int .i64 a8, .int .i64 a9, .int .i64 a10], .func (.func 157) #[.agg #[.int .i64 a0, .int .i64 a1, .int .i64 a2, .int .i64 a3, .int .i64 a4, .int .i64 a5, .int .i64 a6, .int .i64 a7, .int .i64 a8, .int .i64 a9, .int .i64 a10]] #[], .func (.func 158) #[.agg #[.int .i64 a0, .int .i64 a1, .int .i64 a2, .int .i64 a3, .int .i64 a4, .int .i64 a5, .int .i64 a6, .int .i64 a7, .int .i64 a8, .int .i64 a9, .int .i64 a10]] #[]] w fun e w' => e = .returned (.bool (placeB a1 a2 a3)) ∧ Below w.heap.size w w' := by
  go_enter Tryz.func156, Tryz.ntmps156
  go_wp2_with (first | ((with_reducible refine (zones_any _ _ _ _ _ _ _ _ _ _ _ _).mono ?_); rintro e w' ⟨rfl, hb⟩) | ((with_reducible refine (way_any _ _ _ _ _ _ _ _ _ _ _ _).mono ?_); rintro e w' ⟨rfl, hb⟩))
  all_goals (go_ret; exact ⟨by simp_all [placeB], (bel1 _ _).trans (hb.mono (by simp))⟩)

set_option maxHeartbeats 4000000 in
set_option maxRecDepth 100000 in
theorem tk_any (a0 a1 a2 a3 a4 a5 a6 a7 a8 a9 a10 : Int) (w : World) :
    Calls Tryz.prog 85 #[.agg #[.int .i64 a0, .int .i64 a1, .int .i64 a2, .int .i64 a3, .int .i64 a4, .int .i64 a5, .int .i64 a6, .int .i64 a7, .int .i64 a8, .int .i64 a9, .int .i64 a10]] w fun e w' => e = .returned (.bool (tkB a0 a1 a2 a3 a4 a5 a6 a7 a8 a9 a10)) ∧ Below w.heap.size w w' := by
  have hmf : ∀ (fn : Fn) (first cap : Array Value) (w : World), (Instr.makeFunc fn first cap).run Tryz.prog w = .ok (.func fn first cap) w := fun _ _ _ _ => rfl
  cases c0 : wB a0 1 1099511627776 with
  | false =>
    go_enter Tryz.func85, Tryz.ntmps85
    go_wp2_with (go_at_call 155; refine (within_any _ _ _ _).mono ?_; rintro e w' ⟨rfl, rfl⟩)
    go_ret
    exact ⟨by simp [tkB, *], (by repeat (first | (with_reducible exact bR _) | (with_reducible refine bT ?_ (by assumption)) | (with_reducible apply bA) | (with_reducible apply bD) | (with_reducible apply bN) | (with_reducible refine bS ?_ (by first | omega | (simp; done) | (simp; omega)))))⟩
  | true =>
  cases c1 : wB a1 1 4 with
  | false =>
    go_enter Tryz.func85, Tryz.ntmps85
    go_wp2_with (go_at_call 155; refine (within_any _ _ _ _).mono ?_; rintro e w' ⟨rfl, rfl⟩)
    go_ret
    exact ⟨by simp [tkB, *], (by repeat (first | (with_reducible exact bR _) | (with_reducible refine bT ?_ (by assumption)) | (with_reducible apply bA) | (with_reducible apply bD) | (with_reducible apply bN) | (with_reducible refine bS ?_ (by first | omega | (simp; done) | (simp; omega)))))⟩
  | true =>
  cases c2 : wB a4 1 2 with
  | false =>
    go_enter Tryz.func85, Tryz.ntmps85
    go_wp2_with (go_at_call 155; refine (within_any _ _ _ _).mono ?_; rintro e w' ⟨rfl, rfl⟩)
    go_ret
    exact ⟨by simp [tkB, *], (by repeat (first | (with_reducible exact bR _) | (with_reducible refine bT ?_ (by assumption)) | (with_reducible apply bA) | (with_reducible apply bD) | (with_reducible apply bN) | (with_reducible refine bS ?_ (by first | omega | (simp; done) | (simp; omega)))))⟩
  | true =>
  cases c3 : wB a5 0 3 with
  | false =>
    go_enter Tryz.func85, Tryz.ntmps85
    go_wp2_with (go_at_call 155; refine (within_any _ _ _ _).mono ?_; rintro e w' ⟨rfl, rfl⟩)
    go_ret
    exact ⟨by simp [tkB, *], (by repeat (first | (with_reducible exact bR _) | (with_reducible refine bT ?_ (by assumption)) | (with_reducible apply bA) | (with_reducible apply bD) | (with_reducible apply bN) | (with_reducible refine bS ?_ (by first | omega | (simp; done) | (simp; omega)))))⟩
  | true =>
  cases c4 : wB a6 0 999 with
  | false =>
    go_enter Tryz.func85, Tryz.ntmps85
    go_wp2_with (go_at_call 155; refine (within_any _ _ _ _).mono ?_; rintro e w' ⟨rfl, rfl⟩)
    go_ret
    exact ⟨by simp [tkB, *], (by repeat (first | (with_reducible exact bR _) | (with_reducible refine bT ?_ (by assumption)) | (with_reducible apply bA) | (with_reducible apply bD) | (with_reducible apply bN) | (with_reducible refine bS ?_ (by first | omega | (simp; done) | (simp; omega)))))⟩
  | true =>
  cases c5 : wB a7 0 99999 with
  | false =>
    go_enter Tryz.func85, Tryz.ntmps85
    go_wp2_with (go_at_call 155; refine (within_any _ _ _ _).mono ?_; rintro e w' ⟨rfl, rfl⟩)
    go_ret
    exact ⟨by simp [tkB, *], (by repeat (first | (with_reducible exact bR _) | (with_reducible refine bT ?_ (by assumption)) | (with_reducible apply bA) | (with_reducible apply bD) | (with_reducible apply bN) | (with_reducible refine bS ?_ (by first | omega | (simp; done) | (simp; omega)))))⟩
  | true =>
  cases c6 : wB a8 1 999 with
  | false =>
    go_enter Tryz.func85, Tryz.ntmps85
    go_wp2_with (go_at_call 155; refine (within_any _ _ _ _).mono ?_; rintro e w' ⟨rfl, rfl⟩)
    go_ret
    exact ⟨by simp [tkB, *], (by repeat (first | (with_reducible exact bR _) | (with_reducible refine bT ?_ (by assumption)) | (with_reducible apply bA) | (with_reducible apply bD) | (with_reducible apply bN) | (with_reducible refine bS ?_ (by first | omega | (simp; done) | (simp; omega)))))⟩
  | true =>
  obtain ⟨h5a, h5b⟩ := wB_iff c5; obtain ⟨h6a, h6b⟩ := wB_iff c6
  by_cases c7 : 100000 < a7 + a8
  · go_enter Tryz.func85, Tryz.ntmps85
    go_wp2_with (go_at_call 155; refine (within_any _ _ _ _).mono ?_; rintro e w' ⟨rfl, rfl⟩)
    go_ret
    exact ⟨by simp [tkB, show ¬ (a7 + a8 ≤ 100000) by omega], (by repeat (first | (with_reducible exact bR _) | (with_reducible refine bT ?_ (by assumption)) | (with_reducible apply bA) | (with_reducible apply bD) | (with_reducible apply bN) | (with_reducible refine bS ?_ (by first | omega | (simp; done) | (simp; omega)))))⟩
  cases c8 : wB a10 0 9 with
  | false =>
    go_enter Tryz.func85, Tryz.ntmps85
    go_wp2_with (go_at_call 155; refine (within_any _ _ _ _).mono ?_; rintro e w' ⟨rfl, rfl⟩)
    go_ret
    exact ⟨by simp [tkB, *], (by repeat (first | (with_reducible exact bR _) | (with_reducible refine bT ?_ (by assumption)) | (with_reducible apply bA) | (with_reducible apply bD) | (with_reducible apply bN) | (with_reducible refine bS ?_ (by first | omega | (simp; done) | (simp; omega)))))⟩
  | true =>
  have c7' : a7 + a8 ≤ 100000 := by omega
  cases c9 : placeB a1 a2 a3 with
  | false =>
    go_enter Tryz.func85, Tryz.ntmps85
    go_wp2_with (first | (go_at_call 155; refine (within_any _ _ _ _).mono ?_; rintro e w' ⟨rfl, rfl⟩) | (go_at_call 156; refine (of_any _ _ _ _ _ _ _ _ _ _ _ _).mono ?_; rintro e w' ⟨rfl, hb⟩; obtain ⟨hc, hf⟩ := bcell hb))
    go_ret
    exact ⟨by simp [tkB, *], (by repeat (first | (with_reducible exact bR _) | (with_reducible refine bT ?_ (by assumption)) | (with_reducible apply bA) | (with_reducible apply bD) | (with_reducible apply bN) | (with_reducible refine bS ?_ (by first | omega | (simp; done) | (simp; omega)))))⟩
  | true =>
    go_enter Tryz.func85, Tryz.ntmps85
    go_wp2_with (first | (go_at_call 155; refine (within_any _ _ _ _).mono ?_; rintro e w' ⟨rfl, rfl⟩) | (go_at_call 156; refine (of_any _ _ _ _ _ _ _ _ _ _ _ _).mono ?_; rintro e w' ⟨rfl, hb⟩; obtain ⟨hc, hf⟩ := bcell hb) | (go_at_call 159; refine (uses_any _ _ _ _ _ _ _ _ _ _ _ _).mono ?_; rintro e w' ⟨rfl, hb2⟩))
    go_ret
    exact ⟨by simp [tkB, *], (by repeat (first | (with_reducible exact bR _) | (with_reducible refine bT ?_ (by assumption)) | (with_reducible apply bA) | (with_reducible apply bD) | (with_reducible apply bN) | (with_reducible refine bS ?_ (by first | omega | (simp; done) | (simp; omega)))))⟩

end Go.Proofs.YtnbghgenaolfgaaGreat

namespace Go.Proofs.YtnbghgenaolfgaaGreat
open Go.RowKit
set_option linter.unusedVariables false
set_option maxRecDepth 100000
set_option linter.unusedSimpArgs false

theorem ref07Is_any (s : Int) (w : World) :
    Calls Tryz.prog 216 #[.int .i64 s] w fun e w' => e = .returned (.bool (wB s 0 39)) ∧ w = w' := by
  by_cases h : 0 ≤ s
  · go_enter Tryz.func216, Tryz.ntmps216
    go_wp2
    go_ret
    simp [wB, h]
  · have hd : decide (0 ≤ s) = false := by simpa using h
    go_enter Tryz.func216, Tryz.ntmps216
    go_wp2
    go_ret
    simp [wB, hd]

set_option maxHeartbeats 2000000 in
theorem refPlace_any (a0 a1 a2 a3 a4 a5 a6 a7 a8 a9 a10 : Int) (w : World) :
    Calls Tryz.prog 169 #[.agg #[.int .i64 a0, .int .i64 a1, .int .i64 a2, .int .i64 a3, .int .i64 a4, .int .i64 a5, .int .i64 a6, .int .i64 a7, .int .i64 a8, .int .i64 a9, .int .i64 a10]] w fun e w' => e = .returned (.bool (placeB a1 a2 a3)) ∧ Below w.heap.size w w' := by
  by_cases h : a1 = 3
  · have h3 : (a1 == 3) = true := by simpa using h
    have e : placeB a1 a2 a3 = zonesB a2 a3 := by simp [placeB, h]
    have E := Lib.hid e
    clear e h
    by_cases c0 : 1 ≤ a2
    · by_cases c1 : a2 ≤ a3
      · go_enter Tryz.func169, Tryz.ntmps169
        go_wp2
        go_ret
        exact ⟨by rw [E.out]; simp [zonesB, wB, c0, c1]; omega, bel1 _ _⟩
      · have hd : decide (a2 ≤ a3) = false := by simpa using c1
        go_enter Tryz.func169, Tryz.ntmps169
        go_wp2
        go_ret
        exact ⟨by rw [E.out]; simp [zonesB, wB, hd], bel1 _ _⟩
    · have hd : decide (1 ≤ a2) = false := by simpa using c0
      go_enter Tryz.func169, Tryz.ntmps169
      go_wp2
      go_ret
      exact ⟨by rw [E.out]; simp [zonesB, wB, hd], bel1 _ _⟩
  · have h3 : (a1 == 3) = false := by simpa using h
    have e : placeB a1 a2 a3 = wayB a2 a3 := by simp [placeB, h]
    have E := Lib.hid e
    clear e h
    go_enter Tryz.func169, Tryz.ntmps169
    go_wp2_with (go_at_call 216; refine (ref07Is_any _ _).mono ?_; rintro e w' ⟨rfl, rfl⟩)
    all_goals (go_ret; exact ⟨by rw [E.out]; simp [wayB, *], bel1 _ _⟩)

set_option maxHeartbeats 2000000 in
theorem refUses_any (a0 a1 a2 a3 a4 a5 a6 a7 a8 a9 a10 : Int) (w : World) (k1 : 1 ≤ a1) (k4 : a1 ≤ 4) :
    Calls Tryz.prog 170 #[.agg #[.int .i64 a0, .int .i64 a1, .int .i64 a2, .int .i64 a3, .int .i64 a4, .int .i64 a5, .int .i64 a6, .int .i64 a7, .int .i64 a8, .int .i64 a9, .int .i64 a10]] w fun e w' => e = .returned (.bool (usesB a1 a9)) ∧ Below w.heap.size w w' := by
  by_cases h : a1 = 4
  · subst h
    by_cases c0 : 2 ≤ a9
    · go_enter Tryz.func170, Tryz.ntmps170
      go_wp2
      go_ret
      exact ⟨by simp [usesB, wB, c0], bel1 _ _⟩
    · have hd : decide (2 ≤ a9) = false := by simpa using c0
      go_enter Tryz.func170, Tryz.ntmps170
      go_wp2
      go_ret
      exact ⟨by simp [usesB, wB, hd], bel1 _ _⟩
  · have h3 : a1 = 1 ∨ a1 = 2 ∨ a1 = 3 := by omega
    rcases h3 with rfl | rfl | rfl
    all_goals
      go_enter Tryz.func170, Tryz.ntmps170
      go_wp2
      go_ret
      exact ⟨by simp [usesB], bel1 _ _⟩

set_option maxHeartbeats 8000000 in
set_option maxRecDepth 100000 in
theorem refIs_any (a0 a1 a2 a3 a4 a5 a6 a7 a8 a9 a10 : Int) (w : World) :
    Calls Tryz.prog 98 #[.agg #[.int .i64 a0, .int .i64 a1, .int .i64 a2, .int .i64 a3, .int .i64 a4, .int .i64 a5, .int .i64 a6, .int .i64 a7, .int .i64 a8, .int .i64 a9, .int .i64 a10]] w fun e w' => e = .returned (.bool (tkB a0 a1 a2 a3 a4 a5 a6 a7 a8 a9 a10)) ∧ Below w.heap.size w w' := by
  by_cases c0a : a0 < 1
  · go_enter Tryz.func98, Tryz.ntmps98
    go_wp2
    go_ret
    exact ⟨by simp [tkB, wB_no (n := a0) (a := 1) (b := 1099511627776) (Or.inl c0a)], bel1 _ _⟩
  by_cases c0b : 1099511627776 < a0
  · go_enter Tryz.func98, Tryz.ntmps98
    go_wp2
    go_ret
    exact ⟨by simp [tkB, wB_no (n := a0) (a := 1) (b := 1099511627776) (Or.inr c0b)], bel1 _ _⟩
  by_cases c1a : a1 < 1
  · go_enter Tryz.func98, Tryz.ntmps98
    go_wp2
    go_ret
    exact ⟨by simp [tkB, wB_no (n := a1) (a := 1) (b := 4) (Or.inl c1a)], bel1 _ _⟩
  by_cases c1b : 4 < a1
  · go_enter Tryz.func98, Tryz.ntmps98
    go_wp2
    go_ret
    exact ⟨by simp [tkB, wB_no (n := a1) (a := 1) (b := 4) (Or.inr c1b)], bel1 _ _⟩
  by_cases c2a : a4 < 1
  · go_enter Tryz.func98, Tryz.ntmps98
    go_wp2
    go_ret
    exact ⟨by simp [tkB, wB_no (n := a4) (a := 1) (b := 2) (Or.inl c2a)], bel1 _ _⟩
  by_cases c2b : 2 < a4
  · go_enter Tryz.func98, Tryz.ntmps98
    go_wp2
    go_ret
    exact ⟨by simp [tkB, wB_no (n := a4) (a := 1) (b := 2) (Or.inr c2b)], bel1 _ _⟩
  by_cases c3a : a5 < 0
  · go_enter Tryz.func98, Tryz.ntmps98
    go_wp2
    go_ret
    exact ⟨by simp [tkB, wB_no (n := a5) (a := 0) (b := 3) (Or.inl c3a)], bel1 _ _⟩
  by_cases c3b : 3 < a5
  · go_enter Tryz.func98, Tryz.ntmps98
    go_wp2
    go_ret
    exact ⟨by simp [tkB, wB_no (n := a5) (a := 0) (b := 3) (Or.inr c3b)], bel1 _ _⟩
  by_cases c4a : a6 < 0
  · go_enter Tryz.func98, Tryz.ntmps98
    go_wp2
    go_ret
    exact ⟨by simp [tkB, wB_no (n := a6) (a := 0) (b := 999) (Or.inl c4a)], bel1 _ _⟩
  by_cases c4b : 999 < a6
  · go_enter Tryz.func98, Tryz.ntmps98
    go_wp2
    go_ret
    exact ⟨by simp [tkB, wB_no (n := a6) (a := 0) (b := 999) (Or.inr c4b)], bel1 _ _⟩
  by_cases c5a : a7 < 0
  · go_enter Tryz.func98, Tryz.ntmps98
    go_wp2
    go_ret
    exact ⟨by simp [tkB, wB_no (n := a7) (a := 0) (b := 99999) (Or.inl c5a)], bel1 _ _⟩
  by_cases c5b : 99999 < a7
  · go_enter Tryz.func98, Tryz.ntmps98
    go_wp2
    go_ret
    exact ⟨by simp [tkB, wB_no (n := a7) (a := 0) (b := 99999) (Or.inr c5b)], bel1 _ _⟩
  by_cases c6a : a8 < 1
  · go_enter Tryz.func98, Tryz.ntmps98
    go_wp2
    go_ret
    exact ⟨by simp [tkB, wB_no (n := a8) (a := 1) (b := 999) (Or.inl c6a)], bel1 _ _⟩
  by_cases c6b : 999 < a8
  · go_enter Tryz.func98, Tryz.ntmps98
    go_wp2
    go_ret
    exact ⟨by simp [tkB, wB_no (n := a8) (a := 1) (b := 999) (Or.inr c6b)], bel1 _ _⟩
  by_cases c7 : 100000 < a7 + a8
  · go_enter Tryz.func98, Tryz.ntmps98
    go_wp2
    go_ret
    exact ⟨by simp [tkB, show ¬ (a7 + a8 ≤ 100000) by omega], bel1 _ _⟩
  by_cases c8a : a10 < 0
  · go_enter Tryz.func98, Tryz.ntmps98
    go_wp2
    go_ret
    exact ⟨by simp [tkB, wB_no (n := a10) (a := 0) (b := 9) (Or.inl c8a)], bel1 _ _⟩
  by_cases c8b : 9 < a10
  · go_enter Tryz.func98, Tryz.ntmps98
    go_wp2
    go_ret
    exact ⟨by simp [tkB, wB_no (n := a10) (a := 0) (b := 9) (Or.inr c8b)], bel1 _ _⟩
  have d0 : wB a0 1 1099511627776 = true := wB_mk (by omega) (by omega)
  have d1 : wB a1 1 4 = true := wB_mk (by omega) (by omega)
  have d2 : wB a4 1 2 = true := wB_mk (by omega) (by omega)
  have d3 : wB a5 0 3 = true := wB_mk (by omega) (by omega)
  have d4 : wB a6 0 999 = true := wB_mk (by omega) (by omega)
  have d5 : wB a7 0 99999 = true := wB_mk (by omega) (by omega)
  have d6 : wB a8 1 999 = true := wB_mk (by omega) (by omega)
  have d8 : wB a10 0 9 = true := wB_mk (by omega) (by omega)
  have hT : tkB a0 a1 a2 a3 a4 a5 a6 a7 a8 a9 a10 = (placeB a1 a2 a3 && usesB a1 a9) := by
    have d7 : decide (a7 + a8 ≤ 100000) = true := by simp; omega
    unfold tkB
    simp only [d0, d1, d2, d3, d4, d5, d6, d7, d8, Bool.true_and, Bool.and_true]
  have HT := Lib.hid hT
  clear hT d0 d1 d2 d3 d4 d5 d6 d8
  cases c9 : placeB a1 a2 a3 with
  | false =>
    go_enter Tryz.func98, Tryz.ntmps98
    go_wp2_with (go_at_call 169; refine (refPlace_any _ _ _ _ _ _ _ _ _ _ _ _).mono ?_; rintro e w' ⟨rfl, hb⟩; obtain ⟨hc, hf⟩ := bcell hb)
    go_ret
    exact ⟨by rw [HT.out, c9]; rfl, (by repeat (first | (with_reducible exact bR _) | (with_reducible refine bT ?_ (by assumption)) | (with_reducible apply bA) | (with_reducible apply bD) | (with_reducible apply bN) | (with_reducible refine bS ?_ (by first | omega | (simp; done) | (simp; omega)))))⟩
  | true =>
    go_enter Tryz.func98, Tryz.ntmps98
    go_wp2_with (first | (go_at_call 169; refine (refPlace_any _ _ _ _ _ _ _ _ _ _ _ _).mono ?_; rintro e w' ⟨rfl, hb⟩; obtain ⟨hc, hf⟩ := bcell hb) | (go_at_call 170; refine (refUses_any _ _ _ _ _ _ _ _ _ _ _ _ (by omega) (by omega)).mono ?_; rintro e w' ⟨rfl, hb2⟩))
    go_ret
    exact ⟨by rw [HT.out, c9]; simp, (by repeat (first | (with_reducible exact bR _) | (with_reducible refine bT ?_ (by assumption)) | (with_reducible apply bA) | (with_reducible apply bD) | (with_reducible apply bN) | (with_reducible refine bS ?_ (by first | omega | (simp; done) | (simp; omega)))))⟩
end Go.Proofs.YtnbghgenaolfgaaGreat
