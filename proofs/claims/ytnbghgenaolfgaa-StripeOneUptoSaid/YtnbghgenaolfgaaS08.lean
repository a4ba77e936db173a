/- Layer 20, the program's side and the reference's: which media a ticket has room on, for every eleven numbers and every version. No condition. -/
import Derived.Test.YtnbghgenaolfgaaS07
import Derived.StillTailTactics
import Derived.Deep.RegionHeld3
import Derived.Deep.RegionWith
namespace Go.Proofs.Ytnbghgenaolfgaa
open Go.RowKit
set_option linter.unusedVariables false
set_option maxRecDepth 100000
set_option linter.unusedSimpArgs false

def verN (a5 a6 : Int) : Int := if a6 = 0 then (if a5 = 0 then 1 else 2) else 3
def verV (a0 a1 a2 a3 a4 a5 a6 a7 a8 a9 a10 : Int) : Int := if tkB a0 a1 a2 a3 a4 a5 a6 a7 a8 a9 a10 = true then verN a5 a6 else 0
def verE (a0 a1 a2 a3 a4 a5 a6 a7 a8 a9 a10 : Int) : Int := if tkB a0 a1 a2 a3 a4 a5 a6 a7 a8 a9 a10 = true then 0 else 1
def strB (a0 a1 a2 a3 a4 a5 a6 a7 a8 a9 a10 : Int) : Bool := tkB a0 a1 a2 a3 a4 a5 a6 a7 a8 a9 a10 && (decide (a0 ≤ 9999999) && (a6 == 0))
def barB (a0 a1 a2 a3 a4 a5 a6 a7 a8 a9 a10 v : Int) : Bool := tkB a0 a1 a2 a3 a4 a5 a6 a7 a8 a9 a10 && (decide (verN a5 a6 ≤ v) && decide (v ≤ 3))

def ofN (n v : Int) : Int := if n = 0 then 0 else v
theorem fitsOf_any (n v : Int) (w : World) :
    Calls Try.prog 86 #[.int .i64 n, .int .i64 v] w fun e w' => e = .returned (.int .i64 (ofN n v)) ∧ w = w' := by
  by_cases h : n = 0
  · subst h
    go_enter Try.func86, Try.ntmps86
    go_wp2
    go_ret
    simp [ofN]
  · have hd : (n == 0) = false := by simpa using h
    have hE := Lib.hid h
    clear h
    go_enter Try.func86, Try.ntmps86
    go_wp2
    go_ret
    simp [ofN, hE.out]

theorem greatest_two (g : Nat) (x y : Int) (w : World) (h0 : w.cell? ⟨g, 0, none⟩ = some (.int .i64 x)) (h1 : w.cell? ⟨g, 1, none⟩ = some (.int .i64 y)) :
    Calls Try.prog 85 #[.slice (some ⟨g, 0, none⟩) 2 2] w fun e w' => e = .returned (.int .i64 (max (max 1 x) y)) ∧ w = w' := by
  go_enter Try.func85, Try.ntmps85
  go_wp2
  refine wp_loop_rounds 3 ?_
  rw [rounds_succ]
  go_wp2
  all_goals (rw [rounds_succ]; go_wp2)
  all_goals (rw [rounds_succ]; go_wp2)
  all_goals (go_ret; exact ⟨congrArg (fun z => Ending.returned (Value.int .i64 z)) (by omega), rfl⟩)

def IntRet (z : Int) (W : World) (e : Ending) (w' : World) : Prop := e = .returned (.int .i64 z) ∧ Below W.heap.size W w'

set_option maxHeartbeats 2000000 in
set_option maxRecDepth 100000 in
theorem version_any (a0 a1 a2 a3 a4 a5 a6 a7 a8 a9 a10 : Int) (w : World) :
    Calls Try.prog 35 #[.agg #[.int .i64 a0, .int .i64 a1, .int .i64 a2, .int .i64 a3, .int .i64 a4, .int .i64 a5, .int .i64 a6, .int .i64 a7, .int .i64 a8, .int .i64 a9, .int .i64 a10]] w fun e w' => e = .returned (.tuple #[.int .i64 (verV a0 a1 a2 a3 a4 a5 a6 a7 a8 a9 a10), .int .i64 (verE a0 a1 a2 a3 a4 a5 a6 a7 a8 a9 a10)]) ∧ Below w.heap.size w w' := by
  cases hT : tkB a0 a1 a2 a3 a4 a5 a6 a7 a8 a9 a10 with
  | false =>
    have e1 : verV a0 a1 a2 a3 a4 a5 a6 a7 a8 a9 a10 = 0 := by simp [verV, hT]
    have e2 : verE a0 a1 a2 a3 a4 a5 a6 a7 a8 a9 a10 = 1 := by simp [verE, hT]
    go_enter Try.func35, Try.ntmps35
    go_wp2_with (go_at_call 44; refine (tk_any _ _ _ _ _ _ _ _ _ _ _ _).mono ?_; rintro e w' ⟨rfl, hb⟩; obtain ⟨hc, hf⟩ := bcell hb)
    go_ret2
    exact ⟨by rw [e1, e2] <;> rfl, (by repeat (first | (with_reducible exact bR _) | (with_reducible refine bT ?_ (by assumption)) | (with_reducible apply bA) | (with_reducible apply bD) | (with_reducible apply bN) | (with_reducible refine bS ?_ (by first | omega | (simp; done) | (simp; omega)))))⟩
  | true =>
    have e1 : verV a0 a1 a2 a3 a4 a5 a6 a7 a8 a9 a10 = verN a5 a6 := by simp [verV, hT]
    have e2 : verE a0 a1 a2 a3 a4 a5 a6 a7 a8 a9 a10 = 0 := by simp [verE, hT]
    have E1 := Lib.hid e1; have E2 := Lib.hid e2
    have hk := hT
    unfold tkB at hk
    simp only [Bool.and_eq_true] at hk
    have h5 := wB_iff hk.1.1.1.1.1.1.1.2
    have h6 := wB_iff hk.1.1.1.1.1.1.2
    have hv : verN a5 a6 = max 1 (max (ofN a5 2) (ofN a6 3)) := by
      unfold verN ofN; split <;> split <;> omega
    have HV := Lib.hid hv
    clear hk e1 e2 hv h5 h6
    go_enter Try.func35, Try.ntmps35
    go_wp2_with (go_at_call 44; refine (tk_any _ _ _ _ _ _ _ _ _ _ _ _).mono ?_; rintro e w' ⟨rfl, hb⟩; obtain ⟨hc, hf⟩ := bcell hb)
    go_region_held3 (fun w9 => w9.cell? ⟨w.heap.size, 5, none⟩ = some (.int .i64 a5) ∧ w9.cell? ⟨w.heap.size, 6, none⟩ = some (.int .i64 a6)) (go_keep)
      (first | (go_at_call 86; refine (fitsOf_any _ _ _).mono ?_; rintro e w' ⟨rfl, rfl⟩) | (go_at_call 85; refine (greatest_two _ (ofN a5 2) (ofN a6 3) _ ?_ ?_).mono ?_; (focus (go_simp; done)); (focus (go_simp; done)); rintro e w1 ⟨rfl, rfl⟩))
    go_wp2
    go_ret2
    exact ⟨by rw [E1.out, E2.out, HV.out] <;> rfl, (by repeat (first | (with_reducible exact bR _) | (with_reducible refine bT ?_ (by assumption)) | (with_reducible apply bA) | (with_reducible apply bD) | (with_reducible apply bN) | (with_reducible refine bS ?_ (by first | omega | (simp; done) | (simp; omega)))))⟩

set_option maxHeartbeats 1000000 in
theorem stripe_any (a0 a1 a2 a3 a4 a5 a6 a7 a8 a9 a10 : Int) (w : World) :
    Calls Try.prog 14 #[.agg #[.int .i64 a0, .int .i64 a1, .int .i64 a2, .int .i64 a3, .int .i64 a4, .int .i64 a5, .int .i64 a6, .int .i64 a7, .int .i64 a8, .int .i64 a9, .int .i64 a10]] w fun e w' => e = .returned (.bool (strB a0 a1 a2 a3 a4 a5 a6 a7 a8 a9 a10)) ∧ Below w.heap.size w w' := by
  cases hT : tkB a0 a1 a2 a3 a4 a5 a6 a7 a8 a9 a10 with
  | false =>
    have e1 : strB a0 a1 a2 a3 a4 a5 a6 a7 a8 a9 a10 = false := by simp [strB, hT]
    have E1 := Lib.hid e1
    clear e1
    go_enter Try.func14, Try.ntmps14
    go_wp2_with (go_at_call 44; refine (tk_any _ _ _ _ _ _ _ _ _ _ _ _).mono ?_; rintro e w' ⟨rfl, hb⟩; obtain ⟨hc, hf⟩ := bcell hb)
    go_ret
    exact ⟨by rw [E1.out] <;> rfl, (by repeat (first | (with_reducible exact bR _) | (with_reducible refine bT ?_ (by assumption)) | (with_reducible apply bA) | (with_reducible apply bD) | (with_reducible apply bN) | (with_reducible refine bS ?_ (by first | omega | (simp; done) | (simp; omega)))))⟩
  | true =>
    have e1 : strB a0 a1 a2 a3 a4 a5 a6 a7 a8 a9 a10 = (decide (a0 ≤ 9999999) && (a6 == 0)) := by simp [strB, hT]
    have E1 := Lib.hid e1
    clear e1
    by_cases h0 : a0 ≤ 9999999
    · have hd : decide (a0 ≤ 9999999) = true := by simpa using h0
      go_enter Try.func14, Try.ntmps14
      go_wp2_with (go_at_call 44; refine (tk_any _ _ _ _ _ _ _ _ _ _ _ _).mono ?_; rintro e w' ⟨rfl, hb⟩; obtain ⟨hc, hf⟩ := bcell hb)
      go_ret
      exact ⟨by rw [E1.out, hd] <;> rfl, (by repeat (first | (with_reducible exact bR _) | (with_reducible refine bT ?_ (by assumption)) | (with_reducible apply bA) | (with_reducible apply bD) | (with_reducible apply bN) | (with_reducible refine bS ?_ (by first | omega | (simp; done) | (simp; omega)))))⟩
    · have hd : decide (a0 ≤ 9999999) = false := by simpa using h0
      go_enter Try.func14, Try.ntmps14
      go_wp2_with (go_at_call 44; refine (tk_any _ _ _ _ _ _ _ _ _ _ _ _).mono ?_; rintro e w' ⟨rfl, hb⟩; obtain ⟨hc, hf⟩ := bcell hb)
      go_ret
      exact ⟨by rw [E1.out, hd] <;> rfl, (by repeat (first | (with_reducible exact bR _) | (with_reducible refine bT ?_ (by assumption)) | (with_reducible apply bA) | (with_reducible apply bD) | (with_reducible apply bN) | (with_reducible refine bS ?_ (by first | omega | (simp; done) | (simp; omega)))))⟩

set_option maxHeartbeats 1000000 in
theorem bar_any (a0 a1 a2 a3 a4 a5 a6 a7 a8 a9 a10 v : Int) (w : World) :
    Calls Try.prog 36 #[.agg #[.int .i64 a0, .int .i64 a1, .int .i64 a2, .int .i64 a3, .int .i64 a4, .int .i64 a5, .int .i64 a6, .int .i64 a7, .int .i64 a8, .int .i64 a9, .int .i64 a10], .int .i64 v] w fun e w' => e = .returned (.bool (barB a0 a1 a2 a3 a4 a5 a6 a7 a8 a9 a10 v)) ∧ Below w.heap.size w w' := by
  cases hT : tkB a0 a1 a2 a3 a4 a5 a6 a7 a8 a9 a10 with
  | false =>
    have e1 : barB a0 a1 a2 a3 a4 a5 a6 a7 a8 a9 a10 v = false := by simp [barB, hT]
    have e2 : (verE a0 a1 a2 a3 a4 a5 a6 a7 a8 a9 a10 == 0) = false := by simp [verE, hT]
    have E1 := Lib.hid e1
    clear e1
    go_enter Try.func36, Try.ntmps36
    go_wp2_with (go_at_call 35; refine (version_any _ _ _ _ _ _ _ _ _ _ _ _).mono ?_; rintro e w' ⟨rfl, hb⟩; obtain ⟨hc, hf⟩ := bcell hb)
    go_ret
    exact ⟨by rw [E1.out] <;> rfl, (by repeat (first | (with_reducible exact bR _) | (with_reducible refine bT ?_ (by assumption)) | (with_reducible apply bA) | (with_reducible apply bD) | (with_reducible apply bN) | (with_reducible refine bS ?_ (by first | omega | (simp; done) | (simp; omega)))))⟩
  | true =>
    have e1 : barB a0 a1 a2 a3 a4 a5 a6 a7 a8 a9 a10 v = (decide (verV a0 a1 a2 a3 a4 a5 a6 a7 a8 a9 a10 ≤ v) && decide (v ≤ 3)) := by simp [barB, verV, hT]
    have e2 : (verE a0 a1 a2 a3 a4 a5 a6 a7 a8 a9 a10 == 0) = true := by simp [verE, hT]
    have E1 := Lib.hid e1
    clear e1
    by_cases h0 : verV a0 a1 a2 a3 a4 a5 a6 a7 a8 a9 a10 ≤ v
    · have hd : decide (verV a0 a1 a2 a3 a4 a5 a6 a7 a8 a9 a10 ≤ v) = true := by simpa using h0
      go_enter Try.func36, Try.ntmps36
      go_wp2_with (go_at_call 35; refine (version_any _ _ _ _ _ _ _ _ _ _ _ _).mono ?_; rintro e w' ⟨rfl, hb⟩; obtain ⟨hc, hf⟩ := bcell hb)
      go_ret
      exact ⟨by rw [E1.out, hd] <;> rfl, (by repeat (first | (with_reducible exact bR _) | (with_reducible refine bT ?_ (by assumption)) | (with_reducible apply bA) | (with_reducible apply bD) | (with_reducible apply bN) | (with_reducible refine bS ?_ (by first | omega | (simp; done) | (simp; omega)))))⟩
    · have hd : decide (verV a0 a1 a2 a3 a4 a5 a6 a7 a8 a9 a10 ≤ v) = false := by simpa using h0
      go_enter Try.func36, Try.ntmps36
      go_wp2_with (go_at_call 35; refine (version_any _ _ _ _ _ _ _ _ _ _ _ _).mono ?_; rintro e w' ⟨rfl, hb⟩; obtain ⟨hc, hf⟩ := bcell hb)
      go_ret
      exact ⟨by rw [E1.out, hd] <;> rfl, (by repeat (first | (with_reducible exact bR _) | (with_reducible refine bT ?_ (by assumption)) | (with_reducible apply bA) | (with_reducible apply bD) | (with_reducible apply bN) | (with_reducible refine bS ?_ (by first | omega | (simp; done) | (simp; omega)))))⟩

end Go.Proofs.Ytnbghgenaolfgaa
