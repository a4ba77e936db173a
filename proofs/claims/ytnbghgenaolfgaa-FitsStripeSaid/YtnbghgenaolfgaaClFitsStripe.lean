/- Layer 20's laws FitsTells and FitsMore, walked: both come to true, for every ticket and every version. Layer 20's law FitsStripe: a ticket has room on a stripe just if it is encoded. The law FitsStripe, as a row: whatever the ticket, the journey and the key, the call returns true, and its arguments read as before. No condition. -/
import Derived.Test.YtnbghgenaolfgaaS08
import Derived.Test.YtnbghgenaolfgaaS44
import Derived.Test.YtnbghgenaolfgaaRows
import Derived.Test.YtnbghgenaolfgaaS00
namespace Go.Proofs.Ytnbghgenaolfgaa
open Go.RowKit
set_option linter.unusedVariables false
set_option maxRecDepth 100000
set_option linter.unusedSimpArgs false

theorem plain20_any (w : World) : Calls Try.prog 34 #[] w fun e w' => e = .returned (.agg #[.int .i64 42, .int .i64 1, .int .i64 3, .int .i64 20, .int .i64 2, .int .i64 0, .int .i64 0, .int .i64 10, .int .i64 1, .int .i64 1, .int .i64 0]) ∧ Below w.heap.size w w' := by
  go_enter Try.func34, Try.ntmps34
  go_wp2
  refine bodyPost_ret (v := .agg #[.int .i64 42, .int .i64 1, .int .i64 3, .int .i64 20, .int .i64 2, .int .i64 0, .int .i64 0, .int .i64 10, .int .i64 1, .int .i64 1, .int .i64 0]) (by simp [results, Try.results34, go_sem]) rfl ⟨rfl, (by repeat (first | (with_reducible exact bR _) | (with_reducible refine bT ?_ (by assumption)) | (with_reducible apply bA) | (with_reducible apply bD) | (with_reducible apply bN) | (with_reducible refine bS ?_ (by first | omega | (simp; done) | (simp; omega)))))⟩

set_option maxHeartbeats 4000000 in
set_option maxRecDepth 100000 in
theorem fitted_any (w : World) : Calls Try.prog 12 #[] w fun e w' => e = .returned (.bool true) ∧ Below w.heap.size w w' := by
  have s1 : strB 42 1 3 20 2 0 0 10 1 1 0 = true := by decide
  have v1 : verV 42 1 3 20 2 0 0 10 1 1 0 = 1 := by decide
  have e1 : verE 42 1 3 20 2 0 0 10 1 1 0 = 0 := by decide
  have b1 : barB 42 1 3 20 2 0 0 10 1 1 0 1 = true := by decide
  have v2 : verV 42 1 3 20 2 2 0 10 1 1 0 = 2 := by decide
  have e2 : verE 42 1 3 20 2 2 0 10 1 1 0 = 0 := by decide
  have b2 : barB 42 1 3 20 2 2 0 10 1 1 0 1 = false := by decide
  have v3 : verV 42 1 3 20 2 2 9 10 1 1 0 = 3 := by decide
  have e3 : verE 42 1 3 20 2 2 9 10 1 1 0 = 0 := by decide
  have s3 : strB 42 1 3 20 2 2 9 10 1 1 0 = false := by decide
  have v4 : verV 42 1 3 20 9 2 9 10 1 1 0 = 0 := by decide
  have e4 : verE 42 1 3 20 9 2 9 10 1 1 0 = 1 := by decide
  go_enter Try.func12, Try.ntmps12
  go_wp2_with (first
    | (go_at_call 34; refine (plain20_any _).mono ?_; rintro e w1 ⟨rfl, hb1⟩)
    | (go_at_call 14; refine (stripe_any _ _ _ _ _ _ _ _ _ _ _ _).mono ?_; rintro e w' ⟨rfl, hb⟩; obtain ⟨hc, hf⟩ := bcell hb; have hz : w1.heap.size < w'.heap.size := by have := hb.size; (try simp at this); omega)
    | (go_at_call 35; refine (version_any _ _ _ _ _ _ _ _ _ _ _ _).mono ?_; rintro e w' ⟨rfl, hb⟩; obtain ⟨hc, hf⟩ := bcell hb; have hz : w1.heap.size < w'.heap.size := by have := hb.size; (try simp at this); omega)
    | (go_at_call 36; refine (bar_any _ _ _ _ _ _ _ _ _ _ _ _ _).mono ?_; rintro e w' ⟨rfl, hb⟩; obtain ⟨hc, hf⟩ := bcell hb; have hz : w1.heap.size < w'.heap.size := by have := hb.size; (try simp at this); omega))
  go_ret
  have hs1 := hb1.size
  exact ⟨rfl, (by repeat (first | (with_reducible exact bR _) | (with_reducible refine bT ?_ (by assumption)) | (with_reducible apply bA) | (with_reducible apply bD) | (with_reducible apply bN) | (with_reducible refine bS ?_ (by first | omega | (simp; done) | (simp; omega)))))⟩

theorem verN_pos (a5 a6 : Int) : 1 ≤ verN a5 a6 := by unfold verN; split <;> (try split) <;> omega
theorem verN_le (a5 a6 : Int) : verN a5 a6 ≤ 3 := by unfold verN; split <;> (try split) <;> omega
theorem str_bar (a0 a1 a2 a3 a4 a5 a6 a7 a8 a9 a10 : Int) (h : strB a0 a1 a2 a3 a4 a5 a6 a7 a8 a9 a10 = true) : barB a0 a1 a2 a3 a4 a5 a6 a7 a8 a9 a10 2 = true ∧ barB a0 a1 a2 a3 a4 a5 a6 a7 a8 a9 a10 3 = true := by
  simp only [strB, Bool.and_eq_true, decide_eq_true_eq, beq_iff_eq] at h
  obtain ⟨hT, h0, h6⟩ := h
  have h1 := verN_le a5 a6
  have h2 : verN a5 a6 ≤ 2 := by rw [h6]; simp only [verN, if_true]; split <;> omega
  constructor <;> simp [barB, hT] <;> omega
theorem bar_more (a0 a1 a2 a3 a4 a5 a6 a7 a8 a9 a10 v : Int) (h : barB a0 a1 a2 a3 a4 a5 a6 a7 a8 a9 a10 v = true) : 1 ≤ v ∧ v ≤ 3 ∧ barB a0 a1 a2 a3 a4 a5 a6 a7 a8 a9 a10 3 = true ∧ (v ≠ 3 → barB a0 a1 a2 a3 a4 a5 a6 a7 a8 a9 a10 (v + 1) = true) := by
  simp only [barB, Bool.and_eq_true, decide_eq_true_eq] at h
  obtain ⟨hT, h0, h3⟩ := h
  have h1 := verN_pos a5 a6
  refine ⟨by omega, h3, by simp [barB, hT]; omega, fun hn => by simp [barB, hT]; omega⟩

end Go.Proofs.Ytnbghgenaolfgaa

namespace Go.Proofs.Ytnbghgenaolfgaa
open Go.RowKit
set_option linter.unusedVariables false
set_option maxRecDepth 100000
set_option linter.unusedSimpArgs false

theorem putL_9 (n wd : Int) : ∀ x ∈ putL n wd, 0 ≤ x ∧ x ≤ 9 := by
  intro x hx
  unfold putL at hx
  split at hx
  · simp at hx
  · have := dg_byte _ _ x hx; omega
theorem joinGo_fits : ∀ (vs ws acc : List Int), vs.length = ws.length → (∀ i, i < ws.length → putE (vs.getD i 0) (ws.getD i 0) = 0) → (joinGo vs ws acc).2 = 0
  | [], [], acc, _, _ => by simp [joinGo]
  | [], _ :: _, _, h, _ => by simp at h
  | _ :: _, [], _, h, _ => by simp at h
  | v :: vs, x :: ws, acc, hl, h => by
    have h0 := h 0 (by simp)
    rw [joinGo_cons, if_neg (by simpa using h0)]
    exact joinGo_fits vs ws _ (by simpa using hl) (fun i hi => by have := h (i + 1) (by simpa using hi); simpa using this)
theorem joinGo_9 : ∀ (vs ws acc : List Int), (∀ x ∈ acc, 0 ≤ x ∧ x ≤ 9) → ∀ x ∈ (joinGo vs ws acc).1, 0 ≤ x ∧ x ≤ 9
  | [], ws, acc, h => by simpa [joinGo] using h
  | v :: vs, [], acc, h => by simpa [joinGo] using h
  | v :: vs, x :: ws, acc, h => by
    rw [joinGo_cons]
    split
    · simp
    · exact joinGo_9 vs ws _ (fun y hy => by
        rcases List.mem_append.1 hy with hy | hy
        · exact h y hy
        · exact putL_9 _ _ y hy)
theorem joinR_9 (vs ws : List Int) : ∀ x ∈ (joinR vs ws).1, 0 ≤ x ∧ x ≤ 9 := by
  unfold joinR
  split
  · simp
  · exact joinGo_9 _ _ _ (by simp)
theorem layR_9 (T : Bool) (c : List Int) : ∀ x ∈ (layR T c).1, 0 ≤ x ∧ x ≤ 9 := by
  unfold layR
  split
  · simp
  · split
    · simp
    · exact joinR_9 _ _
theorem putE_fits {n : Int} {k : Nat} (h0 : 0 ≤ n) (h1 : k ≤ 18) (h : n < 10 ^ k) : putE n k = 0 :=
  putE_ok h0 h1 (by rw [Int.ediv_eq_zero_of_lt h0 h]; omega)
theorem joinR_fits {vs ws : List Int} (hl : vs.length = ws.length) (h20 : vs.length ≤ 20) (h : ∀ i, i < ws.length → putE (vs.getD i 0) (ws.getD i 0) = 0) : (joinR vs ws).2 = 0 := by
  rw [joinR_go hl (by omega)]
  exact joinGo_fits vs ws [] hl h
set_option maxHeartbeats 1000000 in
/-- A right ticket with room, and a journey that suits it, can be laid out. -/
theorem lay_fits (a0 a1 a2 a3 a4 a5 a6 a7 a8 a9 a10 k l i : Int) (hT : tkB a0 a1 a2 a3 a4 a5 a6 a7 a8 a9 a10 = true) (hS : suB a9 l i = true) (hk : 0 ≤ k ∧ k ≤ 99) :
    (layR true [a0, a1, a2, a3, a4, a5, a6, a7, a8, a9, a10, k, l, i, 0]).2 = if a6 ≠ 0 ∨ 9999999 < a0 then 18 else 0 := by
  unfold layR
  rw [if_neg (by
    show ¬ (true = false ∨ suB a9 l i = false ∨ k < 0 ∨ 100 ≤ k ∨ (0 : Int) ≠ 0)
    rw [hS]; simp; omega)]
  show (if a6 ≠ 0 ∨ 9999999 < a0 then (([], 18) : List Int × Int) else joinR (layV a1 [a0, a1, a2, a3, a4, a5, a6, a7, a8, a9, a10, k, l, i, 0]) (wsL a1)).2 = _
  by_cases hr : a6 ≠ 0 ∨ 9999999 < a0
  · rw [if_pos hr, if_pos hr]
  · rw [if_neg hr, if_neg hr]
    have hf := tkL_facts (l := [a0, a1, a2, a3, a4, a5, a6, a7, a8, a9, a10]) hT
    have hS' := hS
    unfold suB at hS'
    rw [decide_eq_true_eq] at hS'
    have hpl : placeB a1 a2 a3 = true := by
      unfold tkB at hT
      simp only [Bool.and_eq_true] at hT
      exact hT.1.2
    simp only [List.getD_cons_zero, List.getD_cons_succ] at hf
    have E := fun (n : Int) (k : Nat) (h0 : 0 ≤ n) (h1 : k ≤ 18) (h : n < 10 ^ k) => putE_fits h0 h1 h
    rcases (show a1 = 1 ∨ a1 = 2 ∨ a1 = 3 ∨ a1 = 4 by omega) with rfl | rfl | rfl | rfl
    · refine joinR_fits rfl (by simp [layV, fl]) (fun j hj => ?_)
      rcases (show j = 0 ∨ j = 1 ∨ j = 2 ∨ j = 3 ∨ j = 4 ∨ j = 5 ∨ j = 6 ∨ j = 7 ∨ j = 8 ∨ j = 9 ∨ j = 10 ∨ j = 11 by simp [wsL] at hj; omega) with rfl | rfl | rfl | rfl | rfl | rfl | rfl | rfl | rfl | rfl | rfl | rfl
      · exact E 1 1 (by omega) (by omega) (by omega)
      · exact E a0 7 (by omega) (by omega) (by omega)
      · exact E a4 1 (by omega) (by omega) (by omega)
      · exact E a5 1 (by omega) (by omega) (by omega)
      · exact E a7 5 (by omega) (by omega) (by omega)
      · exact E a8 3 (by omega) (by omega) (by omega)
      · exact E a10 1 (by omega) (by omega) (by omega)
      · exact E a2 2 (by omega) (by omega) (by omega)
      · exact E a3 2 (by omega) (by omega) (by omega)
      · exact E l 2 (by omega) (by omega) (by omega)
      · exact E i 2 (by omega) (by omega) (by omega)
      · exact E k 2 (by omega) (by omega) (by omega)
    · refine joinR_fits rfl (by simp [layV, fl]) (fun j hj => ?_)
      rcases (show j = 0 ∨ j = 1 ∨ j = 2 ∨ j = 3 ∨ j = 4 ∨ j = 5 ∨ j = 6 ∨ j = 7 ∨ j = 8 ∨ j = 9 ∨ j = 10 ∨ j = 11 by simp [wsL] at hj; omega) with rfl | rfl | rfl | rfl | rfl | rfl | rfl | rfl | rfl | rfl | rfl | rfl
      · exact E 2 1 (by omega) (by omega) (by omega)
      · exact E a0 7 (by omega) (by omega) (by omega)
      · exact E a4 1 (by omega) (by omega) (by omega)
      · exact E a5 1 (by omega) (by omega) (by omega)
      · exact E a7 5 (by omega) (by omega) (by omega)
      · exact E a8 3 (by omega) (by omega) (by omega)
      · exact E a10 1 (by omega) (by omega) (by omega)
      · exact E a2 2 (by omega) (by omega) (by omega)
      · exact E a3 2 (by omega) (by omega) (by omega)
      · exact E l 2 (by omega) (by omega) (by omega)
      · exact E i 2 (by omega) (by omega) (by omega)
      · exact E k 2 (by omega) (by omega) (by omega)
    · have hz : (1 ≤ a2 ∧ a2 ≤ 6) ∧ (a2 ≤ a3 ∧ a3 ≤ 6) := by
        have h : zonesB a2 a3 = true := hpl
        unfold zonesB at h
        simp only [Bool.and_eq_true] at h
        exact ⟨wB_iff h.1, wB_iff h.2⟩
      refine joinR_fits rfl (by simp [layV, fl]) (fun j hj => ?_)
      rcases (show j = 0 ∨ j = 1 ∨ j = 2 ∨ j = 3 ∨ j = 4 ∨ j = 5 ∨ j = 6 ∨ j = 7 ∨ j = 8 ∨ j = 9 ∨ j = 10 ∨ j = 11 by simp [wsL] at hj; omega) with rfl | rfl | rfl | rfl | rfl | rfl | rfl | rfl | rfl | rfl | rfl | rfl
      · exact E 3 1 (by omega) (by omega) (by omega)
      · exact E a0 7 (by omega) (by omega) (by omega)
      · exact E a4 1 (by omega) (by omega) (by omega)
      · exact E a5 1 (by omega) (by omega) (by omega)
      · exact E a7 5 (by omega) (by omega) (by omega)
      · exact E a8 3 (by omega) (by omega) (by omega)
      · exact E a10 1 (by omega) (by omega) (by omega)
      · exact E a2 1 (by omega) (by omega) (by omega)
      · exact E a3 1 (by omega) (by omega) (by omega)
      · exact E l 2 (by omega) (by omega) (by omega)
      · exact E i 2 (by omega) (by omega) (by omega)
      · exact E k 2 (by omega) (by omega) (by omega)
    · refine joinR_fits rfl (by simp [layV, fl]) (fun j hj => ?_)
      rcases (show j = 0 ∨ j = 1 ∨ j = 2 ∨ j = 3 ∨ j = 4 ∨ j = 5 ∨ j = 6 ∨ j = 7 ∨ j = 8 ∨ j = 9 ∨ j = 10 ∨ j = 11 ∨ j = 12 by simp [wsL] at hj; omega) with rfl | rfl | rfl | rfl | rfl | rfl | rfl | rfl | rfl | rfl | rfl | rfl | rfl
      · exact E 4 1 (by omega) (by omega) (by omega)
      · exact E a0 7 (by omega) (by omega) (by omega)
      · exact E a4 1 (by omega) (by omega) (by omega)
      · exact E a5 1 (by omega) (by omega) (by omega)
      · exact E a7 5 (by omega) (by omega) (by omega)
      · exact E a8 3 (by omega) (by omega) (by omega)
      · exact E a10 1 (by omega) (by omega) (by omega)
      · exact E a2 2 (by omega) (by omega) (by omega)
      · exact E a3 2 (by omega) (by omega) (by omega)
      · exact E a9 2 (by omega) (by omega) (by omega)
      · exact E l 2 (by omega) (by omega) (by omega)
      · exact E i 2 (by omega) (by omega) (by omega)
      · exact E k 2 (by omega) (by omega) (by omega)
theorem sumGo_layL (k : Int) {x : List Int} {vs : List Int} (h : joinR vs (wsL k) = (x, 0)) : x.length ≤ 31 := by
  have hs := joinR_sum h
  unfold wsL at hs
  split at hs
  · simp [sumGo] at hs; omega
  · split at hs
    · simp [sumGo] at hs; omega
    · split at hs
      · simp [sumGo] at hs; omega
      · simp [sumGo] at hs; omega
theorem layR_31 {T : Bool} {c x : List Int} (h : layR T c = (x, 0)) : x.length ≤ 31 := by
  unfold layR at h
  split at h
  · exact absurd (congrArg Prod.snd h) (by simp)
  · split at h
    · exact absurd (congrArg Prod.snd h) (by simp)
    · exact sumGo_layL _ h
/-- A ticket is encoded on a stripe just if it has room. -/
theorem enc_fitsS (a0 a1 a2 a3 a4 a5 a6 a7 a8 a9 a10 k l i : Int) (sec : List Int) (h1 : 0 ≤ k) (h2 : k ≤ 99) (h3 : 1 ≤ sec.length) (h4 : sec.length ≤ 64) (hS : suB a9 l i = true) :
    ((encS [⟨k, sec, 0, 1⟩] [a0, a1, a2, a3, a4, a5, a6, a7, a8, a9, a10, k, l, i, 0]).2 == 0) = strB a0 a1 a2 a3 a4 a5 a6 a7 a8 a9 a10 := by
  have hrg : ringB [⟨k, sec, 0, 1⟩] = true := by
    unfold ringB
    rw [ringGo_cons]
    have : rightB ⟨k, sec, 0, 1⟩ = true := by
      unfold rightB wB
      simp [h1, h2]
      omega
    rw [this]
    simp [ringGo]
    omega
  have hfind : findE [⟨k, sec, 0, 1⟩] k = (some ⟨k, sec, 0, 1⟩, 0) := by
    unfold findE
    rw [if_neg (by rw [hrg]; simp), if_pos ⟨h1, by omega⟩]
    simp
  have hE : encS [⟨k, sec, 0, 1⟩] [a0, a1, a2, a3, a4, a5, a6, a7, a8, a9, a10, k, l, i, 0] = (if (layR (tkB a0 a1 a2 a3 a4 a5 a6 a7 a8 a9 a10) [a0, a1, a2, a3, a4, a5, a6, a7, a8, a9, a10, k, l, i, 0]).2 ≠ 0 then ([], (layR (tkB a0 a1 a2 a3 a4 a5 a6 a7 a8 a9 a10) [a0, a1, a2, a3, a4, a5, a6, a7, a8, a9, a10, k, l, i, 0]).2) else trackPut ((layR (tkB a0 a1 a2 a3 a4 a5 a6 a7 a8 a9 a10) [a0, a1, a2, a3, a4, a5, a6, a7, a8, a9, a10, k, l, i, 0]).1 ++ tagS sec (layR (tkB a0 a1 a2 a3 a4 a5 a6 a7 a8 a9 a10) [a0, a1, a2, a3, a4, a5, a6, a7, a8, a9, a10, k, l, i, 0]).1)) := by
    unfold encS
    rw [hrg, if_neg (by decide)]
    show (if (layR (tkB a0 a1 a2 a3 a4 a5 a6 a7 a8 a9 a10) _).2 ≠ 0 then _ else match findE [⟨k, sec, 0, 1⟩] k with
      | (none, e) => _
      | (some k, _) => _) = _
    rw [hfind]
    rfl
  rw [hE]
  unfold strB
  cases hT : tkB a0 a1 a2 a3 a4 a5 a6 a7 a8 a9 a10 with
  | false =>
    have e : layR false [a0, a1, a2, a3, a4, a5, a6, a7, a8, a9, a10, k, l, i, 0] = ([], 1) := by unfold layR; rw [if_pos (.inl rfl)]
    rw [e]
    rfl
  | true =>
    have hf := lay_fits a0 a1 a2 a3 a4 a5 a6 a7 a8 a9 a10 k l i hT hS ⟨h1, h2⟩
    by_cases hr : a6 ≠ 0 ∨ 9999999 < a0
    · rw [if_pos hr] at hf
      rw [if_pos (by rw [hf]; decide), hf]
      rcases hr with hr | hr
      · rw [show (a6 == 0) = false by simpa using hr]; simp
      · rw [decide_eq_false (p := a0 ≤ 9999999) (by omega)]; simp
    · rw [if_neg hr] at hf
      rw [if_neg (by rw [hf]; simp)]
      have h9 := layR_9 true [a0, a1, a2, a3, a4, a5, a6, a7, a8, a9, a10, k, l, i, 0]
      have h31 : (layR true [a0, a1, a2, a3, a4, a5, a6, a7, a8, a9, a10, k, l, i, 0]).1.length ≤ 31 := layR_31 (T := true) (c := [a0, a1, a2, a3, a4, a5, a6, a7, a8, a9, a10, k, l, i, 0]) (Prod.ext rfl hf)
      generalize (layR true [a0, a1, a2, a3, a4, a5, a6, a7, a8, a9, a10, k, l, i, 0]).1 = X at *
      have h77 : (X ++ tagS sec X).length ≤ 77 := by rw [List.length_append, tagS_len]; omega
      rw [trackPut_mk h77 (fun x hx => by
        rcases List.mem_append.1 hx with hx | hx
        · exact h9 x hx
        · exact tagS_9 _ _ x hx)]
      rw [decide_eq_true (p := a0 ≤ 9999999) (by omega), show (a6 == 0) = true by rw [beq_iff_eq]; omega]
      rfl
theorem rdk_one3 (W : World) (id fr til : Int) (B : Option Addr) (c n : Nat) (sec : List Int) (hn : sec.length = n) (hr : RdI W .u8 B sec) (hc : n ≤ c) (hc9 : c ≤ 9223372036854775807) (hb : ∀ x ∈ sec, 0 ≤ x ∧ x < 256) :
    RdK (W.alloc (.cells #[.int .i64 id, .slice B n c, .int .i64 fr, .int .i64 til] 28)) (some ⟨W.heap.size, 0, none⟩) [⟨id, sec, fr, til⟩] := by
  subst hn
  refine .inr ⟨_, rfl, by simp, fun j hj => ?_⟩
  obtain rfl : j = 0 := by simpa using hj
  have h := heap_alloc_new W (.cells #[.int .i64 id, .slice B sec.length c, .int .i64 fr, .int .i64 til] 28)
  exact ⟨B, c, cell_of_row _ _ 0 _ _ _ h, cell_of_row _ _ 1 _ _ _ h, cell_of_row _ _ 2 _ _ _ h, cell_of_row _ _ 3 _ _ _ h, hc, hc9, hr.below (bel1 _ _), hb⟩
set_option maxHeartbeats 8000000 in
set_option maxRecDepth 100000 in
theorem fitsStripe_b1 (a0 a1 a2 a3 a4 a5 a6 a7 a8 a9 a10 l i id fr til : Int) (B : Option Addr) (c n : Nat) (w : World) (d1 : decide ((n : Int) < 1) = true)  :
    Calls Try.prog 3 #[.agg #[.int .i64 a0, .int .i64 a1, .int .i64 a2, .int .i64 a3, .int .i64 a4, .int .i64 a5, .int .i64 a6, .int .i64 a7, .int .i64 a8, .int .i64 a9, .int .i64 a10], .agg #[.int .i64 l, .int .i64 i], .agg #[.int .i64 id, .slice B n c, .int .i64 fr, .int .i64 til]] w fun e w' => e = .returned (.bool true) ∧ Below w.heap.size w w' := by
  go_enter Try.func3, Try.ntmps3
  go_wp2_with (go_at_call 12; (with_reducible refine (fitted_any _).mono ?_); rintro e w3 ⟨rfl, hb3⟩; obtain ⟨hc3, hf3⟩ := bcell hb3; have hz3 : w.heap.size + 2 < w3.heap.size := (by have := hb3.size; (try simp at this); omega); have hz3a : w.heap.size < w3.heap.size := (by omega); have HB3 := Lib.hid (bT (bA (bA (bel1 w _) _) _) hb3); clear hb3)
  go_ret
  exact ⟨rfl, HB3.out⟩

set_option maxHeartbeats 8000000 in
set_option maxRecDepth 100000 in
theorem fitsStripe_b2 (a0 a1 a2 a3 a4 a5 a6 a7 a8 a9 a10 l i id fr til : Int) (B : Option Addr) (c n : Nat) (w : World) (d1 : decide ((n : Int) < 1) = false) (d2 : decide ((64 : Int) < (n : Int)) = true)  :
    Calls Try.prog 3 #[.agg #[.int .i64 a0, .int .i64 a1, .int .i64 a2, .int .i64 a3, .int .i64 a4, .int .i64 a5, .int .i64 a6, .int .i64 a7, .int .i64 a8, .int .i64 a9, .int .i64 a10], .agg #[.int .i64 l, .int .i64 i], .agg #[.int .i64 id, .slice B n c, .int .i64 fr, .int .i64 til]] w fun e w' => e = .returned (.bool true) ∧ Below w.heap.size w w' := by
  go_enter Try.func3, Try.ntmps3
  go_wp2_with (go_at_call 12; (with_reducible refine (fitted_any _).mono ?_); rintro e w3 ⟨rfl, hb3⟩; obtain ⟨hc3, hf3⟩ := bcell hb3; have hz3 : w.heap.size + 2 < w3.heap.size := (by have := hb3.size; (try simp at this); omega); have hz3a : w.heap.size < w3.heap.size := (by omega); have HB3 := Lib.hid (bT (bA (bA (bel1 w _) _) _) hb3); clear hb3)
  go_ret
  exact ⟨rfl, HB3.out⟩

set_option maxHeartbeats 8000000 in
set_option maxRecDepth 100000 in
theorem fitsStripe_b3 (a0 a1 a2 a3 a4 a5 a6 a7 a8 a9 a10 l i id fr til : Int) (B : Option Addr) (c n : Nat) (w : World) (d1 : decide ((n : Int) < 1) = false) (d2 : decide ((64 : Int) < (n : Int)) = false) (d3 : decide (id < 0) = true)  :
    Calls Try.prog 3 #[.agg #[.int .i64 a0, .int .i64 a1, .int .i64 a2, .int .i64 a3, .int .i64 a4, .int .i64 a5, .int .i64 a6, .int .i64 a7, .int .i64 a8, .int .i64 a9, .int .i64 a10], .agg #[.int .i64 l, .int .i64 i], .agg #[.int .i64 id, .slice B n c, .int .i64 fr, .int .i64 til]] w fun e w' => e = .returned (.bool true) ∧ Below w.heap.size w w' := by
  go_enter Try.func3, Try.ntmps3
  go_wp2_with (go_at_call 12; (with_reducible refine (fitted_any _).mono ?_); rintro e w3 ⟨rfl, hb3⟩; obtain ⟨hc3, hf3⟩ := bcell hb3; have hz3 : w.heap.size + 2 < w3.heap.size := (by have := hb3.size; (try simp at this); omega); have hz3a : w.heap.size < w3.heap.size := (by omega); have HB3 := Lib.hid (bT (bA (bA (bel1 w _) _) _) hb3); clear hb3)
  go_ret
  exact ⟨rfl, HB3.out⟩

set_option maxHeartbeats 8000000 in
set_option maxRecDepth 100000 in
theorem fitsStripe_b4 (a0 a1 a2 a3 a4 a5 a6 a7 a8 a9 a10 l i id fr til : Int) (B : Option Addr) (c n : Nat) (w : World) (d1 : decide ((n : Int) < 1) = false) (d2 : decide ((64 : Int) < (n : Int)) = false) (d3 : decide (id < 0) = false) (d4 : decide (99 < id) = true)  :
    Calls Try.prog 3 #[.agg #[.int .i64 a0, .int .i64 a1, .int .i64 a2, .int .i64 a3, .int .i64 a4, .int .i64 a5, .int .i64 a6, .int .i64 a7, .int .i64 a8, .int .i64 a9, .int .i64 a10], .agg #[.int .i64 l, .int .i64 i], .agg #[.int .i64 id, .slice B n c, .int .i64 fr, .int .i64 til]] w fun e w' => e = .returned (.bool true) ∧ Below w.heap.size w w' := by
  go_enter Try.func3, Try.ntmps3
  go_wp2_with (go_at_call 12; (with_reducible refine (fitted_any _).mono ?_); rintro e w3 ⟨rfl, hb3⟩; obtain ⟨hc3, hf3⟩ := bcell hb3; have hz3 : w.heap.size + 2 < w3.heap.size := (by have := hb3.size; (try simp at this); omega); have hz3a : w.heap.size < w3.heap.size := (by omega); have HB3 := Lib.hid (bT (bA (bA (bel1 w _) _) _) hb3); clear hb3)
  go_ret
  exact ⟨rfl, HB3.out⟩

set_option maxHeartbeats 8000000 in
set_option maxRecDepth 100000 in
theorem fitsStripe_b5 (a0 a1 a2 a3 a4 a5 a6 a7 a8 a9 a10 l i id fr til : Int) (B : Option Addr) (c n : Nat) (w : World) (d1 : decide ((n : Int) < 1) = false) (d2 : decide ((64 : Int) < (n : Int)) = false) (d3 : decide (id < 0) = false) (d4 : decide (99 < id) = false) (hsu : suB a9 l i = false) :
    Calls Try.prog 3 #[.agg #[.int .i64 a0, .int .i64 a1, .int .i64 a2, .int .i64 a3, .int .i64 a4, .int .i64 a5, .int .i64 a6, .int .i64 a7, .int .i64 a8, .int .i64 a9, .int .i64 a10], .agg #[.int .i64 l, .int .i64 i], .agg #[.int .i64 id, .slice B n c, .int .i64 fr, .int .i64 til]] w fun e w' => e = .returned (.bool true) ∧ Below w.heap.size w w' := by
  go_enter Try.func3, Try.ntmps3
  go_wp2_with (first | (go_at_call 11; (with_reducible refine (suits_any _ _ _ _ _ _ _ _ _ _ _ _ _ _).mono ?_); rintro e w1 ⟨he, hb1⟩; rw [hsu] at he; subst he; obtain ⟨hc1, hf1⟩ := bcell hb1; have hz1 : w.heap.size + 2 < w1.heap.size := (by have := hb1.size; (try simp at this); omega); have hz1a : w.heap.size < w1.heap.size := (by omega); have hz1b : w.heap.size + 1 < w1.heap.size := (by omega); have HB1 := Lib.hid (bT (bA (bA (bel1 w _) _) _) hb1); clear hb1) | (go_at_call 12; (with_reducible refine (fitted_any _).mono ?_); rintro e w3 ⟨rfl, hb3⟩; obtain ⟨hc3, hf3⟩ := bcell hb3; have hz3 : w.heap.size + 2 < w3.heap.size := (by have := hb3.size; (try simp at this); omega); have hz3a : w.heap.size < w3.heap.size := (by omega); have HB3 := Lib.hid (bT HB1.out hb3); clear hb3))
  go_ret
  exact ⟨rfl, HB3.out⟩

set_option maxHeartbeats 8000000 in
set_option maxRecDepth 100000 in
theorem fitsStripe_ok (a0 a1 a2 a3 a4 a5 a6 a7 a8 a9 a10 l i id fr til : Int) (B : Option Addr) (c n : Nat) (sec : List Int) (w : World) (hn : sec.length = n) (hr : RdI w .u8 B sec) (hc : n ≤ c) (hc9 : c ≤ 9223372036854775807) (hb : ∀ x ∈ sec, 0 ≤ x ∧ x < 256) (hv : ∀ x ∈ [a0, a1, a2, a3, a4, a5, a6, a7, a8, a9, a10, id, l, i, 0], x ≤ 9223372036854775807)
    (d1 : decide ((n : Int) < 1) = false) (d2 : decide ((64 : Int) < (n : Int)) = false) (d3 : decide (id < 0) = false) (d4 : decide (99 < id) = false) (hsu : suB a9 l i = true) :
    Calls Try.prog 3 #[.agg #[.int .i64 a0, .int .i64 a1, .int .i64 a2, .int .i64 a3, .int .i64 a4, .int .i64 a5, .int .i64 a6, .int .i64 a7, .int .i64 a8, .int .i64 a9, .int .i64 a10], .agg #[.int .i64 l, .int .i64 i], .agg #[.int .i64 id, .slice B n c, .int .i64 fr, .int .i64 til]] w fun e w' => e = .returned (.bool true) ∧ Below w.heap.size w w' := by
  have d1' := of_decide_eq_false d1
  have d2' := of_decide_eq_false d2
  have d3' := of_decide_eq_false d3
  have d4' := of_decide_eq_false d4
  have hq := enc_fitsS a0 a1 a2 a3 a4 a5 a6 a7 a8 a9 a10 id l i sec (by omega) (by omega) (by omega) (by omega) hsu
  have hE := fun A W h => stEncode_any A 1 [⟨id, sec, 0, 1⟩] a0 a1 a2 a3 a4 a5 a6 a7 a8 a9 a10 id l i 0 W h (by simp) hv
  have hE2 : ∀ A W, RdK W A [⟨id, sec, 0, 1⟩] → Calls Try.prog 13 #[.slice A 1 1, .agg #[.int .i64 a0, .int .i64 a1, .int .i64 a2, .int .i64 a3, .int .i64 a4, .int .i64 a5, .int .i64 a6, .int .i64 a7, .int .i64 a8, .int .i64 a9, .int .i64 a10, .int .i64 id, .int .i64 l, .int .i64 i, .int .i64 0]] W (ByteRetE (encS [⟨id, sec, 0, 1⟩] [a0, a1, a2, a3, a4, a5, a6, a7, a8, a9, a10, id, l, i, 0]) W) := hE
  generalize encS [⟨id, sec, 0, 1⟩] [a0, a1, a2, a3, a4, a5, a6, a7, a8, a9, a10, id, l, i, 0] = rv at *
  clear hE d1' d2' d3' d4' hv
  have HQ := Lib.hid hq
  have hK := fun W hW => rdk_one3 W id 0 1 B c n sec hn hW hc hc9 hb
  have HR := Lib.hid hr
  clear hq hr hb hn
  go_enter Try.func3, Try.ntmps3
  go_wp2_with (first | (go_at_call 11; (with_reducible refine (suits_any _ _ _ _ _ _ _ _ _ _ _ _ _ _).mono ?_); rintro e w1 ⟨he, hb1⟩; rw [hsu] at he; subst he; obtain ⟨hc1, hf1⟩ := bcell hb1; have hz1 : w.heap.size + 2 < w1.heap.size := (by have := hb1.size; (try simp at this); omega); have hz1a : w.heap.size < w1.heap.size := (by omega); have hz1b : w.heap.size + 1 < w1.heap.size := (by omega); have HB1 := Lib.hid (bT (bA (bA (bel1 w _) _) _) hb1); clear hb1) | (go_at_call 13; (with_reducible refine (hE2 _ _ (hK _ (HR.out.below HB1.out))).mono ?_); rintro e w2 ⟨v, rfl, _, hb2⟩; obtain ⟨hc2, hf2⟩ := bcell hb2; have hz2 : w.heap.size + 2 < w2.heap.size := (by have := hb2.size; (try simp at this); omega); have hz2a : w.heap.size < w2.heap.size := (by omega); have HB2 := Lib.hid (bT (bA HB1.out (.cells #[.int .i64 id, .slice B n c, .int .i64 0, .int .i64 1] 28)) hb2); clear hb2) | (go_at_call 12; (with_reducible refine (fitted_any _).mono ?_); rintro e w3 ⟨rfl, hb3⟩; obtain ⟨hc3, hf3⟩ := bcell hb3; have hz3 : w.heap.size + 2 < w3.heap.size := (by have := hb3.size; (try simp at this); omega); have hz3a : w.heap.size < w3.heap.size := (by omega); have HB3 := Lib.hid (bT HB2.out hb3); clear hb3) | (go_at_call 14; (with_reducible refine (stripe_any _ _ _ _ _ _ _ _ _ _ _ _).mono ?_); rintro e w4 ⟨rfl, hb4⟩))
  go_ret
  exact ⟨by rw [HQ.out]; simp, bT HB3.out hb4⟩
theorem fitsStripe_any (a0 a1 a2 a3 a4 a5 a6 a7 a8 a9 a10 l i id fr til : Int) (B : Option Addr) (c : Nat) (sec : List Int) (w : World) (hr : RdI w .u8 B sec) (hc : sec.length ≤ c) (hc9 : c ≤ 9223372036854775807) (hb : ∀ x ∈ sec, 0 ≤ x ∧ x < 256) (hv : ∀ x ∈ [a0, a1, a2, a3, a4, a5, a6, a7, a8, a9, a10, id, l, i, 0], x ≤ 9223372036854775807) :
    Calls Try.prog 3 #[.agg #[.int .i64 a0, .int .i64 a1, .int .i64 a2, .int .i64 a3, .int .i64 a4, .int .i64 a5, .int .i64 a6, .int .i64 a7, .int .i64 a8, .int .i64 a9, .int .i64 a10], .agg #[.int .i64 l, .int .i64 i], .agg #[.int .i64 id, .slice B sec.length c, .int .i64 fr, .int .i64 til]] w fun e w' => e = .returned (.bool true) ∧ Below w.heap.size w w' := by
  obtain ⟨n, hn⟩ : ∃ n, sec.length = n := ⟨_, rfl⟩
  rw [hn] at hc ⊢
  by_cases h1 : (n : Int) < 1
  · exact fitsStripe_b1 a0 a1 a2 a3 a4 a5 a6 a7 a8 a9 a10 l i id fr til B c n w (decide_eq_true h1)
  by_cases h2 : (64 : Int) < (n : Int)
  · exact fitsStripe_b2 a0 a1 a2 a3 a4 a5 a6 a7 a8 a9 a10 l i id fr til B c n w (decide_eq_false h1) (decide_eq_true h2)
  by_cases h3 : id < 0
  · exact fitsStripe_b3 a0 a1 a2 a3 a4 a5 a6 a7 a8 a9 a10 l i id fr til B c n w (decide_eq_false h1) (decide_eq_false h2) (decide_eq_true h3)
  by_cases h4 : 99 < id
  · exact fitsStripe_b4 a0 a1 a2 a3 a4 a5 a6 a7 a8 a9 a10 l i id fr til B c n w (decide_eq_false h1) (decide_eq_false h2) (decide_eq_false h3) (decide_eq_true h4)
  cases h5 : suB a9 l i with
  | false => exact fitsStripe_b5 a0 a1 a2 a3 a4 a5 a6 a7 a8 a9 a10 l i id fr til B c n w (decide_eq_false h1) (decide_eq_false h2) (decide_eq_false h3) (decide_eq_false h4) h5
  | true => exact fitsStripe_ok a0 a1 a2 a3 a4 a5 a6 a7 a8 a9 a10 l i id fr til B c n sec w hn hr hc hc9 hb hv (decide_eq_false h1) (decide_eq_false h2) (decide_eq_false h3) (decide_eq_false h4) h5

end Go.Proofs.Ytnbghgenaolfgaa

namespace Go.Proofs.Ytnbghgenaolfgaa.fitsStripe
open Go.ChangeShapes Go.WideShapes Go.ChangeAt Go.RowKit
open Go.ChangeMaps (open_string shut_string)
set_option linter.unusedVariables false
set_option maxRecDepth 100000
theorem own : ownKnob Try.prog.godebug = none := by kernel_rfl
theorem laidOut : laidOutB Try.prog = true := by kernel_rfl
set_option maxRecDepth 100000 in
theorem lifted (os : Os) (started : os.Started) (H : Type) (enc : TypeId × Value → H) :
    ReturnsInHanded {} Try.checked os 3 .any (Rows.fitsStripeSpec.pre6 enc Try.prog Try.f3 Rows.fitsStripeRow.domain false) (Rows.fitsStripeSpec.post enc Try.prog Try.f3 false true false false) := by
  refine returnsInHanded_of_change_sized (C := Try.checked) own started (by kernel_rfl) Try.func3
    (ChangeSpec.witness6 (enc := enc) (C := Try.checked) false ⟨#[], #[.agg #[.int .i64 0, .int .i64 0, .int .i64 0, .int .i64 0, .int .i64 0, .int .i64 0, .int .i64 0, .int .i64 0, .int .i64 0, .int .i64 0, .int .i64 0], .agg #[.int .i64 0, .int .i64 0], .agg #[.int .i64 0, .slice none 0 0, .int .i64 0, .int .i64 0]], []⟩ 8 (by kernel_rfl) (by kernel_rfl) (by kernel_rfl) (by kernel_rfl)) ?_
  intro W base args ds gs before hval0 hW hcnd hsz0 _
  have hsz : (DataW.weightsEach Try.prog (Try.f3.params.toList ++ Rows.fitsStripeSpec.plain.varTypes Try.prog) (ds ++ gs)).all (· ≤ reachBytes) = true := hsz0
  have hval : ∀ (j : Nat) t v, Try.f3.params[j]? = some t → args[j]? = some v → Value.okWide Try.prog W .any base t v := hval0
  have hW' := hW
  obtain ⟨p, q, hA0, hV, rfl, hfz, hnd⟩ := hW
  have hA : DataW.TrodAll enc Try.prog W 0 (fun _ => true) true Try.f3.params.toList args.toList ds p := hA0
  rw [Try.params3] at hA hval hsz
  obtain ⟨v0, vs0, d0, ds0, p0, q0, hargs, rfl, rfl, h0, r0⟩ := trodAll_cons hA
  obtain ⟨v1, vs1, d1, ds1, p1, q1, rfl, rfl, rfl, h1, r1⟩ := trodAll_cons r0
  obtain ⟨v2, vs2, d2, ds2, p2, q2, rfl, rfl, rfl, h2, r2⟩ := trodAll_cons r1
  obtain ⟨rfl, rfl, rfl⟩ := trodAll_nil r2
  obtain rfl : args = #[v0, v1, v2] := by cases args; simp_all
  obtain ⟨rfl, rfl⟩ := trodVars_none hV
  have k0 := h0
  have lt0 : ∀ x ∈ p0, x.block < W.heap.size := by obtain ⟨m, hm⟩ := k0; exact DataW.trod_lt m _ _ _ hm
  obtain ⟨cs0, rfl, hc0⟩ := okWide_struct Try.underlying23 (hval 0 23 v0 rfl rfl)
  obtain ⟨l0⟩ := cs0
  obtain ⟨fu0, hf0⟩ := h0
  have L0 := open_leaves 6 23 (by kernel_rfl) fu0 _ _ (by simpa [Value.cells] using hc0) hf0
  rw [show leavesOf Try.prog 6 23 = [3, 3, 3, 3, 3, 3, 3, 3, 3, 3, 3] from by kernel_rfl] at L0
  simp only [Value.cells] at L0
  obtain ⟨c0_0, m0_0, rfl, g0_0, L0⟩ := Lv_cons L0
  obtain ⟨c0_1, m0_1, rfl, g0_1, L0⟩ := Lv_cons L0
  obtain ⟨c0_2, m0_2, rfl, g0_2, L0⟩ := Lv_cons L0
  obtain ⟨c0_3, m0_3, rfl, g0_3, L0⟩ := Lv_cons L0
  obtain ⟨c0_4, m0_4, rfl, g0_4, L0⟩ := Lv_cons L0
  obtain ⟨c0_5, m0_5, rfl, g0_5, L0⟩ := Lv_cons L0
  obtain ⟨c0_6, m0_6, rfl, g0_6, L0⟩ := Lv_cons L0
  obtain ⟨c0_7, m0_7, rfl, g0_7, L0⟩ := Lv_cons L0
  obtain ⟨c0_8, m0_8, rfl, g0_8, L0⟩ := Lv_cons L0
  obtain ⟨c0_9, m0_9, rfl, g0_9, L0⟩ := Lv_cons L0
  obtain ⟨c0_10, m0_10, rfl, g0_10, L0⟩ := Lv_cons L0
  obtain rfl := Lv_nil L0
  obtain ⟨a0_0, rfl, w0_0⟩ := leaf_int Try.underlying3 g0_0
  obtain ⟨a0_1, rfl, w0_1⟩ := leaf_int Try.underlying3 g0_1
  obtain ⟨a0_2, rfl, w0_2⟩ := leaf_int Try.underlying3 g0_2
  obtain ⟨a0_3, rfl, w0_3⟩ := leaf_int Try.underlying3 g0_3
  obtain ⟨a0_4, rfl, w0_4⟩ := leaf_int Try.underlying3 g0_4
  obtain ⟨a0_5, rfl, w0_5⟩ := leaf_int Try.underlying3 g0_5
  obtain ⟨a0_6, rfl, w0_6⟩ := leaf_int Try.underlying3 g0_6
  obtain ⟨a0_7, rfl, w0_7⟩ := leaf_int Try.underlying3 g0_7
  obtain ⟨a0_8, rfl, w0_8⟩ := leaf_int Try.underlying3 g0_8
  obtain ⟨a0_9, rfl, w0_9⟩ := leaf_int Try.underlying3 g0_9
  obtain ⟨a0_10, rfl, w0_10⟩ := leaf_int Try.underlying3 g0_10
  have k1 := h1
  have lt1 : ∀ x ∈ p1, x.block < W.heap.size := by obtain ⟨m, hm⟩ := k1; exact DataW.trod_lt m _ _ _ hm
  obtain ⟨cs1, rfl, hc1⟩ := okWide_struct Try.underlying25 (hval 1 25 v1 rfl rfl)
  obtain ⟨l1⟩ := cs1
  obtain ⟨fu1, hf1⟩ := h1
  have L1 := open_leaves 6 25 (by kernel_rfl) fu1 _ _ (by simpa [Value.cells] using hc1) hf1
  rw [show leavesOf Try.prog 6 25 = [3, 3] from by kernel_rfl] at L1
  simp only [Value.cells] at L1
  obtain ⟨c1_0, m1_0, rfl, g1_0, L1⟩ := Lv_cons L1
  obtain ⟨c1_1, m1_1, rfl, g1_1, L1⟩ := Lv_cons L1
  obtain rfl := Lv_nil L1
  obtain ⟨a1_0, rfl, w1_0⟩ := leaf_int Try.underlying3 g1_0
  obtain ⟨a1_1, rfl, w1_1⟩ := leaf_int Try.underlying3 g1_1
  have k2 := h2
  have lt2 : ∀ x ∈ p2, x.block < W.heap.size := by obtain ⟨m, hm⟩ := k2; exact DataW.trod_lt m _ _ _ hm
  obtain ⟨cs2, rfl, hc2⟩ := okWide_struct Try.underlying28 (hval 2 28 v2 rfl rfl)
  obtain ⟨l2⟩ := cs2
  obtain ⟨fu2, hf2⟩ := h2
  have L2 := open_leaves 6 28 (by kernel_rfl) fu2 _ _ (by simpa [Value.cells] using hc2) hf2
  rw [show leavesOf Try.prog 6 28 = [3, 26, 3, 3] from by kernel_rfl] at L2
  simp only [Value.cells] at L2
  obtain ⟨c2_0, m2_0, rfl, g2_0, L2⟩ := Lv_cons L2
  obtain ⟨c2_1, m2_1, rfl, g2_1, L2⟩ := Lv_cons L2
  obtain ⟨c2_2, m2_2, rfl, g2_2, L2⟩ := Lv_cons L2
  obtain ⟨c2_3, m2_3, rfl, g2_3, L2⟩ := Lv_cons L2
  obtain rfl := Lv_nil L2
  obtain ⟨a2_0, rfl, w2_0⟩ := leaf_int Try.underlying3 g2_0
  obtain ⟨A2_1, len2_1, cap2_1, zs2_1, rfl, w2_1⟩ := leaf_row Try.underlying26 Try.underlying5 (by kernel_rfl) g2_1
  obtain ⟨hq2_1, hm2_1⟩ := row_caps w2_1
  obtain ⟨b2_1, rfl, hr2_1, hl2_1, hw2_1⟩ := rd_of_row w2_1
  obtain ⟨a2_2, rfl, w2_2⟩ := leaf_int Try.underlying3 g2_2
  obtain ⟨a2_3, rfl, w2_3⟩ := leaf_int Try.underlying3 g2_3
  clear hA0 hval0 hsz0 hsz
  refine (fitsStripe_any a0_0 a0_1 a0_2 a0_3 a0_4 a0_5 a0_6 a0_7 a0_8 a0_9 a0_10 a1_0 a1_1 a2_0 a2_2 a2_3 A2_1 cap2_1 b2_1 W hr2_1 hq2_1 hm2_1 (wfu8 hw2_1) (le15 (wf64 w0_0).2 (wf64 w0_1).2 (wf64 w0_2).2 (wf64 w0_3).2 (wf64 w0_4).2 (wf64 w0_5).2 (wf64 w0_6).2 (wf64 w0_7).2 (wf64 w0_8).2 (wf64 w0_9).2 (wf64 w0_10).2 (wf64 w2_0).2 (wf64 w1_0).2 (wf64 w1_1).2 (by omega))).mono fun e W' ⟨he, bel⟩ => ?_
  subst he
  exact ⟨_, rfl, _, _, _, [], _, [], hW', trodAll_mk1 (shut_bool Try.underlying4 _), (trodAll_cons_mk (Below.trod laidOut (by kernel_rfl) (of_decide_eq_true (by kernel_rfl)) k0 bel lt0) (trodAll_cons_mk (Below.trod laidOut (by kernel_rfl) (of_decide_eq_true (by kernel_rfl)) k1 bel lt1) (trodAll_cons_mk (Below.trod laidOut (by kernel_rfl) (of_decide_eq_true (by kernel_rfl)) k2 bel lt2) trodAll_mk0))), rfl, bel.frame _, fun h => by cases h⟩
theorem over : Rows.fitsStripeRow.holds Try.pinned (OpenSpec.ofChange Rows.fitsStripeSpec) :=
  OpenClaim.holds_of_wide 3 Try.f3 rfl rfl rfl rfl rfl rfl rfl ⟨rfl, rfl, rfl, rfl, rfl⟩ rfl rfl rfl rfl rfl (by kernel_rfl) Try.func3 (by kernel_rfl)
    (of_decide_eq_true (by kernel_rfl)) (by unfold Func.isWrapper; first | (rw [if_pos (by decide +kernel)]; kernel_rfl) | (rw [if_neg (by decide +kernel)]; exact ⟨rfl, rfl⟩))
    (fun os started H enc _ => lifted os started H enc)
theorem proved : Rows.FitsStripeSaid := over
#print axioms proved
end Go.Proofs.Ytnbghgenaolfgaa.fitsStripe
namespace Go.Proofs.Ytnbghgenaolfgaa
theorem fitsStripe_holds : Rows.FitsStripeSaid := fitsStripe.proved
end Go.Proofs.Ytnbghgenaolfgaa

