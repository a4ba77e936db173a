/- Layer 20's laws FitsTells and FitsMore, walked: both come to true, for every ticket and every version. Layer 20's law FitsStripe: a ticket has room on a stripe just if it is encoded. Layer 21: media of one kind, made media of the other. Layer 21: what across.ToBarcode and across.ToStripe compute. Layer 21: contracts of across.ToBarcode and across.ToStripe, and their plain laws. No condition. -/
import Derived.Test.YtnbghgenaolfgaaGreatZ04
import Derived.Test.YtnbghgenaolfgaaGreatZ26
import Derived.Test.YtnbghgenaolfgaaGreatZ27
import Derived.Laws.EntriesVeiled
namespace Go.Proofs.YtnbghgenaolfgaaGreat
open Go.RowKit
set_option linter.unusedVariables false
set_option maxRecDepth 100000
set_option linter.unusedSimpArgs false

theorem verN_pos (a5 a6 : Int) : 1 ≤ verN a5 a6 := by unfold verN; split <;> (try split) <;> omega
theorem verN_le (a5 a6 : Int) : verN a5 a6 ≤ 3 := by unfold verN; split <;> (try split) <;> omega
theorem str_bar (a0 a1 a2 a3 a4 a5 a6 a7 a8 a9 a10 : Int) (h : strB a0 a1 a2 a3 a4 a5 a6 a7 a8 a9 a10 = true) : barB a0 a1 a2 a3 a4 a5 a6 a7 a8 a9 a10 2 = true ∧ barB a0 a1 a2 a3 a4 a5 a6 a7 a8 a9 a10 3 = true := by
  simp only [strB, Bool.and_eq_true, decide_eq_true_eq, beq_iff_eq] at h
  obtain ⟨hT, h0, h6⟩ := h
  have h1 := verN_le a5 a6
  have h2 : verN a5 a6 ≤ 2 := by rw [h6]; simp only [verN, if_true]; split <;> omega
  constructor <;> simp [barB, hT] <;> omega
theorem bar_more (a0 a1 a2 a3 a4 a5 a6 a7 a8 a9 a10 v : Int) (h : barB a0 a1 a2 a3 a4 a5 a6 a7 a8 a9 a10 v = true) : 1 ≤ v ∧ v ≤ 3 ∧ barB a0 a1 a2 a3 a4 a5 a6 a7 a8 a9 a10 3 = true ∧ (v ≠ 3 → barB a0 a1 a2 a3 a4 a5 a6 a7 a8 a9 a10 (v + 1) = true) := by
  simp only [barB, Bool.and_eq_true, decide_eq_true_eq] at h
  obtain ⟨hT, h0, h3⟩ := h
  have h1 := verN_pos a5 a6
  refine ⟨by omega, h3, by simp [barB, hT]; omega, fun hn => by simp [barB, hT]; omega⟩

end Go.Proofs.YtnbghgenaolfgaaGreat

namespace Go.Proofs.YtnbghgenaolfgaaGreat
open Go.RowKit
set_option linter.unusedVariables false
set_option maxRecDepth 100000
set_option linter.unusedSimpArgs false

theorem putL_9 (n wd : Int) : ∀ x ∈ putL n wd, 0 ≤ x ∧ x ≤ 9 := by
  intro x hx
  unfold putL at hx
  split at hx
  · simp at hx
  · have := dg_byte _ _ x hx; omega
theorem joinGo_fits : ∀ (vs ws acc : List Int), vs.length = ws.length → (∀ i, i < ws.length → putE (vs.getD i 0) (ws.getD i 0) = 0) → (joinGo vs ws acc).2 = 0
  | [], [], acc, _, _ => by simp [joinGo]
  | [], _ :: _, _, h, _ => by simp at h
  | _ :: _, [], _, h, _ => by simp at h
  | v :: vs, x :: ws, acc, hl, h => by
    have h0 := h 0 (by simp)
    rw [joinGo_cons, if_neg (by simpa using h0)]
    exact joinGo_fits vs ws _ (by simpa using hl) (fun i hi => by have := h (i + 1) (by simpa using hi); simpa using this)
theorem joinGo_9 : ∀ (vs ws acc : List Int), (∀ x ∈ acc, 0 ≤ x ∧ x ≤ 9) → ∀ x ∈ (joinGo vs ws acc).1, 0 ≤ x ∧ x ≤ 9
  | [], ws, acc, h => by simpa [joinGo] using h
  | v :: vs, [], acc, h => by simpa [joinGo] using h
  | v :: vs, x :: ws, acc, h => by
    rw [joinGo_cons]
    split
    · simp
    · exact joinGo_9 vs ws _ (fun y hy => by
        rcases List.mem_append.1 hy with hy | hy
        · exact h y hy
        · exact putL_9 _ _ y hy)
theorem joinR_9 (vs ws : List Int) : ∀ x ∈ (joinR vs ws).1, 0 ≤ x ∧ x ≤ 9 := by
  unfold joinR
  split
  · simp
  · exact joinGo_9 _ _ _ (by simp)
theorem layR_9 (T : Bool) (c : List Int) : ∀ x ∈ (layR T c).1, 0 ≤ x ∧ x ≤ 9 := by
  unfold layR
  split
  · simp
  · split
    · simp
    · exact joinR_9 _ _
theorem putE_fits {n : Int} {k : Nat} (h0 : 0 ≤ n) (h1 : k ≤ 18) (h : n < 10 ^ k) : putE n k = 0 :=
  putE_ok h0 h1 (by rw [Int.ediv_eq_zero_of_lt h0 h]; omega)
theorem joinR_fits {vs ws : List Int} (hl : vs.length = ws.length) (h20 : vs.length ≤ 20) (h : ∀ i, i < ws.length → putE (vs.getD i 0) (ws.getD i 0) = 0) : (joinR vs ws).2 = 0 := by
  rw [joinR_go hl (by omega)]
  exact joinGo_fits vs ws [] hl h
set_option maxHeartbeats 1000000 in
/-- A right ticket with room, and a journey that suits it, can be laid out. -/
theorem lay_fits (a0 a1 a2 a3 a4 a5 a6 a7 a8 a9 a10 k l i : Int) (hT : tkB a0 a1 a2 a3 a4 a5 a6 a7 a8 a9 a10 = true) (hS : suB a9 l i = true) (hk : 0 ≤ k ∧ k ≤ 99) :
    (layR true [a0, a1, a2, a3, a4, a5, a6, a7, a8, a9, a10, k, l, i, 0]).2 = if a6 ≠ 0 ∨ 9999999 < a0 then 18 else 0 := by
  unfold layR
  rw [if_neg (by
    show ¬ (true = false ∨ suB a9 l i = false ∨ k < 0 ∨ 100 ≤ k ∨ (0 : Int) ≠ 0)
    rw [hS]; simp; omega)]
  show (if a6 ≠ 0 ∨ 9999999 < a0 then (([], 18) : List Int × Int) else joinR (layV a1 [a0, a1, a2, a3, a4, a5, a6, a7, a8, a9, a10, k, l, i, 0]) (wsL a1)).2 = _
  by_cases hr : a6 ≠ 0 ∨ 9999999 < a0
  · rw [if_pos hr, if_pos hr]
  · rw [if_neg hr, if_neg hr]
    have hf := tkL_facts (l := [a0, a1, a2, a3, a4, a5, a6, a7, a8, a9, a10]) hT
    have hS' := hS
    unfold suB at hS'
    rw [decide_eq_true_eq] at hS'
    have hpl : placeB a1 a2 a3 = true := by
      unfold tkB at hT
      simp only [Bool.and_eq_true] at hT
      exact hT.1.2
    simp only [List.getD_cons_zero, List.getD_cons_succ] at hf
    have E := fun (n : Int) (k : Nat) (h0 : 0 ≤ n) (h1 : k ≤ 18) (h : n < 10 ^ k) => putE_fits h0 h1 h
    rcases (show a1 = 1 ∨ a1 = 2 ∨ a1 = 3 ∨ a1 = 4 by omega) with rfl | rfl | rfl | rfl
    · refine joinR_fits rfl (by simp [layV, fl]) (fun j hj => ?_)
      rcases (show j = 0 ∨ j = 1 ∨ j = 2 ∨ j = 3 ∨ j = 4 ∨ j = 5 ∨ j = 6 ∨ j = 7 ∨ j = 8 ∨ j = 9 ∨ j = 10 ∨ j = 11 by simp [wsL] at hj; omega) with rfl | rfl | rfl | rfl | rfl | rfl | rfl | rfl | rfl | rfl | rfl | rfl
      · exact E 1 1 (by omega) (by omega) (by omega)
      · exact E a0 7 (by omega) (by omega) (by omega)
      · exact E a4 1 (by omega) (by omega) (by omega)
      · exact E a5 1 (by omega) (by omega) (by omega)
      · exact E a7 5 (by omega) (by omega) (by omega)
      · exact E a8 3 (by omega) (by omega) (by omega)
      · exact E a10 1 (by omega) (by omega) (by omega)
      · exact E a2 2 (by omega) (by omega) (by omega)
      · exact E a3 2 (by omega) (by omega) (by omega)
      · exact E l 2 (by omega) (by omega) (by omega)
      · exact E i 2 (by omega) (by omega) (by omega)
      · exact E k 2 (by omega) (by omega) (by omega)
    · refine joinR_fits rfl (by simp [layV, fl]) (fun j hj => ?_)
      rcases (show j = 0 ∨ j = 1 ∨ j = 2 ∨ j = 3 ∨ j = 4 ∨ j = 5 ∨ j = 6 ∨ j = 7 ∨ j = 8 ∨ j = 9 ∨ j = 10 ∨ j = 11 by simp [wsL] at hj; omega) with rfl | rfl | rfl | rfl | rfl | rfl | rfl | rfl | rfl | rfl | rfl | rfl
      · exact E 2 1 (by omega) (by omega) (by omega)
      · exact E a0 7 (by omega) (by omega) (by omega)
      · exact E a4 1 (by omega) (by omega) (by omega)
      · exact E a5 1 (by omega) (by omega) (by omega)
      · exact E a7 5 (by omega) (by omega) (by omega)
      · exact E a8 3 (by omega) (by omega) (by omega)
      · exact E a10 1 (by omega) (by omega) (by omega)
      · exact E a2 2 (by omega) (by omega) (by omega)
      · exact E a3 2 (by omega) (by omega) (by omega)
      · exact E l 2 (by omega) (by omega) (by omega)
      · exact E i 2 (by omega) (by omega) (by omega)
      · exact E k 2 (by omega) (by omega) (by omega)
    · have hz : (1 ≤ a2 ∧ a2 ≤ 6) ∧ (a2 ≤ a3 ∧ a3 ≤ 6) := by
        have h : zonesB a2 a3 = true := hpl
        unfold zonesB at h
        simp only [Bool.and_eq_true] at h
        exact ⟨wB_iff h.1, wB_iff h.2⟩
      refine joinR_fits rfl (by simp [layV, fl]) (fun j hj => ?_)
      rcases (show j = 0 ∨ j = 1 ∨ j = 2 ∨ j = 3 ∨ j = 4 ∨ j = 5 ∨ j = 6 ∨ j = 7 ∨ j = 8 ∨ j = 9 ∨ j = 10 ∨ j = 11 by simp [wsL] at hj; omega) with rfl | rfl | rfl | rfl | rfl | rfl | rfl | rfl | rfl | rfl | rfl | rfl
      · exact E 3 1 (by omega) (by omega) (by omega)
      · exact E a0 7 (by omega) (by omega) (by omega)
      · exact E a4 1 (by omega) (by omega) (by omega)
      · exact E a5 1 (by omega) (by omega) (by omega)
      · exact E a7 5 (by omega) (by omega) (by omega)
      · exact E a8 3 (by omega) (by omega) (by omega)
      · exact E a10 1 (by omega) (by omega) (by omega)
      · exact E a2 1 (by omega) (by omega) (by omega)
      · exact E a3 1 (by omega) (by omega) (by omega)
      · exact E l 2 (by omega) (by omega) (by omega)
      · exact E i 2 (by omega) (by omega) (by omega)
      · exact E k 2 (by omega) (by omega) (by omega)
    · refine joinR_fits rfl (by simp [layV, fl]) (fun j hj => ?_)
      rcases (show j = 0 ∨ j = 1 ∨ j = 2 ∨ j = 3 ∨ j = 4 ∨ j = 5 ∨ j = 6 ∨ j = 7 ∨ j = 8 ∨ j = 9 ∨ j = 10 ∨ j = 11 ∨ j = 12 by simp [wsL] at hj; omega) with rfl | rfl | rfl | rfl | rfl | rfl | rfl | rfl | rfl | rfl | rfl | rfl | rfl
      · exact E 4 1 (by omega) (by omega) (by omega)
      · exact E a0 7 (by omega) (by omega) (by omega)
      · exact E a4 1 (by omega) (by omega) (by omega)
      · exact E a5 1 (by omega) (by omega) (by omega)
      · exact E a7 5 (by omega) (by omega) (by omega)
      · exact E a8 3 (by omega) (by omega) (by omega)
      · exact E a10 1 (by omega) (by omega) (by omega)
      · exact E a2 2 (by omega) (by omega) (by omega)
      · exact E a3 2 (by omega) (by omega) (by omega)
      · exact E a9 2 (by omega) (by omega) (by omega)
      · exact E l 2 (by omega) (by omega) (by omega)
      · exact E i 2 (by omega) (by omega) (by omega)
      · exact E k 2 (by omega) (by omega) (by omega)
theorem sumGo_layL (k : Int) {x : List Int} {vs : List Int} (h : joinR vs (wsL k) = (x, 0)) : x.length ≤ 31 := by
  have hs := joinR_sum h
  unfold wsL at hs
  split at hs
  · simp [sumGo] at hs; omega
  · split at hs
    · simp [sumGo] at hs; omega
    · split at hs
      · simp [sumGo] at hs; omega
      · simp [sumGo] at hs; omega
theorem layR_31 {T : Bool} {c x : List Int} (h : layR T c = (x, 0)) : x.length ≤ 31 := by
  unfold layR at h
  split at h
  · exact absurd (congrArg Prod.snd h) (by simp)
  · split at h
    · exact absurd (congrArg Prod.snd h) (by simp)
    · exact sumGo_layL _ h
/-- A ticket is encoded on a stripe just if it has room. -/
theorem enc_fitsS (a0 a1 a2 a3 a4 a5 a6 a7 a8 a9 a10 k l i : Int) (sec : List Int) (h1 : 0 ≤ k) (h2 : k ≤ 99) (h3 : 1 ≤ sec.length) (h4 : sec.length ≤ 64) (hS : suB a9 l i = true) :
    ((encS [⟨k, sec, 0, 1⟩] [a0, a1, a2, a3, a4, a5, a6, a7, a8, a9, a10, k, l, i, 0]).2 == 0) = strB a0 a1 a2 a3 a4 a5 a6 a7 a8 a9 a10 := by
  have hrg : ringB [⟨k, sec, 0, 1⟩] = true := by
    unfold ringB
    rw [ringGo_cons]
    have : rightB ⟨k, sec, 0, 1⟩ = true := by
      unfold rightB wB
      simp [h1, h2]
      omega
    rw [this]
    simp [ringGo]
    omega
  have hfind : findE [⟨k, sec, 0, 1⟩] k = (some ⟨k, sec, 0, 1⟩, 0) := by
    unfold findE
    rw [if_neg (by rw [hrg]; simp), if_pos ⟨h1, by omega⟩]
    simp
  have hE : encS [⟨k, sec, 0, 1⟩] [a0, a1, a2, a3, a4, a5, a6, a7, a8, a9, a10, k, l, i, 0] = (if (layR (tkB a0 a1 a2 a3 a4 a5 a6 a7 a8 a9 a10) [a0, a1, a2, a3, a4, a5, a6, a7, a8, a9, a10, k, l, i, 0]).2 ≠ 0 then ([], (layR (tkB a0 a1 a2 a3 a4 a5 a6 a7 a8 a9 a10) [a0, a1, a2, a3, a4, a5, a6, a7, a8, a9, a10, k, l, i, 0]).2) else trackPut ((layR (tkB a0 a1 a2 a3 a4 a5 a6 a7 a8 a9 a10) [a0, a1, a2, a3, a4, a5, a6, a7, a8, a9, a10, k, l, i, 0]).1 ++ tagS sec (layR (tkB a0 a1 a2 a3 a4 a5 a6 a7 a8 a9 a10) [a0, a1, a2, a3, a4, a5, a6, a7, a8, a9, a10, k, l, i, 0]).1)) := by
    unfold encS
    rw [hrg, if_neg (by decide)]
    show (if (layR (tkB a0 a1 a2 a3 a4 a5 a6 a7 a8 a9 a10) _).2 ≠ 0 then _ else match findE [⟨k, sec, 0, 1⟩] k with
      | (none, e) => _
      | (some k, _) => _) = _
    rw [hfind]
    rfl
  rw [hE]
  unfold strB
  cases hT : tkB a0 a1 a2 a3 a4 a5 a6 a7 a8 a9 a10 with
  | false =>
    have e : layR false [a0, a1, a2, a3, a4, a5, a6, a7, a8, a9, a10, k, l, i, 0] = ([], 1) := by unfold layR; rw [if_pos (.inl rfl)]
    rw [e]
    rfl
  | true =>
    have hf := lay_fits a0 a1 a2 a3 a4 a5 a6 a7 a8 a9 a10 k l i hT hS ⟨h1, h2⟩
    by_cases hr : a6 ≠ 0 ∨ 9999999 < a0
    · rw [if_pos hr] at hf
      rw [if_pos (by rw [hf]; decide), hf]
      rcases hr with hr | hr
      · rw [show (a6 == 0) = false by simpa using hr]; simp
      · rw [decide_eq_false (p := a0 ≤ 9999999) (by omega)]; simp
    · rw [if_neg hr] at hf
      rw [if_neg (by rw [hf]; simp)]
      have h9 := layR_9 true [a0, a1, a2, a3, a4, a5, a6, a7, a8, a9, a10, k, l, i, 0]
      have h31 : (layR true [a0, a1, a2, a3, a4, a5, a6, a7, a8, a9, a10, k, l, i, 0]).1.length ≤ 31 := layR_31 (T := true) (c := [a0, a1, a2, a3, a4, a5, a6, a7, a8, a9, a10, k, l, i, 0]) (Prod.ext rfl hf)
      generalize (layR true [a0, a1, a2, a3, a4, a5, a6, a7, a8, a9, a10, k, l, i, 0]).1 = X at *
      have h77 : (X ++ tagS sec X).length ≤ 77 := by rw [List.length_append, tagS_len]; omega
      rw [trackPut_mk h77 (fun x hx => by
        rcases List.mem_append.1 hx with hx | hx
        · exact h9 x hx
        · exact tagS_9 _ _ x hx)]
      rw [decide_eq_true (p := a0 ≤ 9999999) (by omega), show (a6 == 0) = true by rw [beq_iff_eq]; omega]
      rfl
theorem rdk_one3 (W : World) (id fr til : Int) (B : Option Addr) (c n : Nat) (sec : List Int) (hn : sec.length = n) (hr : RdI W .u8 B sec) (hc : n ≤ c) (hc9 : c ≤ 9223372036854775807) (hb : ∀ x ∈ sec, 0 ≤ x ∧ x < 256) :
    RdK (W.alloc (.cells #[.int .i64 id, .slice B n c, .int .i64 fr, .int .i64 til] 56)) (some ⟨W.heap.size, 0, none⟩) [⟨id, sec, fr, til⟩] := by
  subst hn
  refine .inr ⟨_, rfl, by simp, fun j hj => ?_⟩
  obtain rfl : j = 0 := by simpa using hj
  have h := heap_alloc_new W (.cells #[.int .i64 id, .slice B sec.length c, .int .i64 fr, .int .i64 til] 56)
  exact ⟨B, c, cell_of_row _ _ 0 _ _ _ h, cell_of_row _ _ 1 _ _ _ h, cell_of_row _ _ 2 _ _ _ h, cell_of_row _ _ 3 _ _ _ h, hc, hc9, hr.below (bel1 _ _), hb⟩
end Go.Proofs.YtnbghgenaolfgaaGreat

namespace Go.Proofs.YtnbghgenaolfgaaGreat
open Go.RowKit
set_option linter.unusedVariables false
set_option maxRecDepth 100000
set_option linter.unusedSimpArgs false

theorem ac_results1 {P : Program} {fn : Func} {t : Tmp} {T ty : TypeId} (h : fn.results = #[.cell t T]) {d : TypeDesc} (hu : P.underlying T = some d) (hd : (match d with | .struct _ | .array _ _ => true | _ => false) = true)
    {tmps : Array Value} {g : Nat} {cs : Array Value} {fr : Nat × Nat} (hp : tmps.getD t undef = .pointer (some ⟨g, 0, none⟩)) {w : World} (hg : w.heap[g]? = some (.cells cs ty fr)) (hi : (P.info? T).map (·.size) = some cs.size) :
    (results fn tmps).run P w = .ok (.agg cs) w := by
  have hl := run_loadVar_row (P := P) w g ty T cs fr d hg hu hd hi
  simp only [results, h, Array.mapM_eq_mapM_toList, List.mapM_cons, List.mapM_nil]
  simp [Sem.run_bind, hp, asAddr, hl, Result.andThen]
theorem ac_rowtt {P : Program} {fn : Func} {t u u2 : Tmp} {T ty : TypeId} (h : fn.results = #[.cell t T, .tmp u, .tmp u2]) {d : TypeDesc} (hu : P.underlying T = some d) (hd : (match d with | .struct _ | .array _ _ => true | _ => false) = true)
    {tmps : Array Value} {g : Nat} {v v2 : Value} {cs : Array Value} {fr : Nat × Nat} (hp : tmps.getD t undef = .pointer (some ⟨g, 0, none⟩)) (hv : tmps.getD u undef = v) (hv2 : tmps.getD u2 undef = v2) {w : World} (hg : w.heap[g]? = some (.cells cs ty fr)) (hi : (P.info? T).map (·.size) = some cs.size) :
    (results fn tmps).run P w = .ok (.tuple #[.agg cs, v, v2]) w := by
  have hl := run_loadVar_row (P := P) w g ty T cs fr d hg hu hd hi
  simp only [results, h, Array.mapM_eq_mapM_toList, List.mapM_cons, List.mapM_nil]
  simp [Sem.run_bind, hp, hv, hv2, asAddr, hl, Result.andThen]
theorem ac_trt {P : Program} {fn : Func} {t u u2 : Tmp} {T ty : TypeId} (h : fn.results = #[.tmp u, .cell t T, .tmp u2]) {d : TypeDesc} (hu : P.underlying T = some d) (hd : (match d with | .struct _ | .array _ _ => true | _ => false) = true)
    {tmps : Array Value} {g : Nat} {v v2 : Value} {cs : Array Value} {fr : Nat × Nat} (hp : tmps.getD t undef = .pointer (some ⟨g, 0, none⟩)) (hv : tmps.getD u undef = v) (hv2 : tmps.getD u2 undef = v2) {w : World} (hg : w.heap[g]? = some (.cells cs ty fr)) (hi : (P.info? T).map (·.size) = some cs.size) :
    (results fn tmps).run P w = .ok (.tuple #[v, .agg cs, v2]) w := by
  have hl := run_loadVar_row (P := P) w g ty T cs fr d hg hu hd hi
  simp only [results, h, Array.mapM_eq_mapM_toList, List.mapM_cons, List.mapM_nil]
  simp [Sem.run_bind, hp, hv, hv2, asAddr, hl, Result.andThen]
theorem ac_new2 (w : World) (A B : Obj) : ((w.alloc A).alloc B).heap[w.heap.size + 1]? = some B := by
  have h := heap_alloc_new (w.alloc A) B
  rw [World.size_alloc] at h
  exact h
theorem ac_setRow {w : World} {base e n size g : Nat} {v : Value} {xs : List Value} (h : w.ownsRow base e size v n xs) (cs : Array Value) (hg : g < base) : (w.setRow g cs).ownsRow base e size v n xs :=
  ⟨h.1, h.2.imp id fun ⟨k, cap, cur, e1, e2, e3, e4⟩ => ⟨k, cap, cur, e1, e2, (setRow_other w g k cs (by omega)).trans e3, e4⟩⟩
def AcRet (cs : Array Value) (s : List Int) (y : Int) (w : World) (e : Ending) (w' : World) : Prop :=
  ∃ v, e = .returned (.tuple #[.agg (if y = 0 then cs else #[.int .i64 0, .int .i64 0, .int .i64 0, .int .i64 0, .int .i64 0, .int .i64 0, .int .i64 0, .int .i64 0, .int .i64 0, .int .i64 0, .int .i64 0, .int .i64 0, .int .i64 0, .int .i64 0, .int .i64 0]), v, .int .i64 y]) ∧ (y = 0 → w'.ownsRow w.heap.size 5 1 v s.length (s.map (.int .u8))) ∧ (y ≠ 0 → v = .slice none 0 0) ∧ Below w.heap.size w w'
theorem infoRd21 : (Tryz.prog.info? 28).map (·.size) = some 15 := by kernel_rfl

set_option maxHeartbeats 2000000 in
theorem anewB_any (a0 a1 a2 a3 a4 a5 a6 a7 a8 a9 a10 a11 a12 a13 a14 k v : Int) (p q : Nat) (w : World) (hp : w.cell? ⟨p, 0, none⟩ = some (.int .i64 k)) (hq : w.cell? ⟨q, 0, none⟩ = some (.int .i64 v)) :
    Calls Tryz.prog 71 #[.agg #[.int .i64 a0, .int .i64 a1, .int .i64 a2, .int .i64 a3, .int .i64 a4, .int .i64 a5, .int .i64 a6, .int .i64 a7, .int .i64 a8, .int .i64 a9, .int .i64 a10, .int .i64 a11, .int .i64 a12, .int .i64 a13, .int .i64 a14], .pointer (some ⟨p, 0, none⟩), .pointer (some ⟨q, 0, none⟩)] w fun e w' => e = .returned (.agg #[.int .i64 a0, .int .i64 a1, .int .i64 a2, .int .i64 a3, .int .i64 a4, .int .i64 a5, .int .i64 a6, .int .i64 a7, .int .i64 a8, .int .i64 a9, .int .i64 a10, .int .i64 k, .int .i64 0, .int .i64 0, .int .i64 v]) ∧ Below w.heap.size w w' := by
  have B2 := bA (bel1 w (.cells #[.int .i64 a0, .int .i64 a1, .int .i64 a2, .int .i64 a3, .int .i64 a4, .int .i64 a5, .int .i64 a6, .int .i64 a7, .int .i64 a8, .int .i64 a9, .int .i64 a10, .int .i64 a11, .int .i64 a12, .int .i64 a13, .int .i64 a14] 28)) (.cells #[.int .i64 0, .int .i64 0, .int .i64 0, .int .i64 0, .int .i64 0, .int .i64 0, .int .i64 0, .int .i64 0, .int .i64 0, .int .i64 0, .int .i64 0, .int .i64 0, .int .i64 0, .int .i64 0, .int .i64 0] 28)
  have hp2 := keep_cell B2 hp
  have hq2 := keep_cell B2 hq
  go_enter Tryz.func71, Tryz.ntmps71
  go_wp2
  exact ⟨rfl, _, ac_results1 rfl Tryz.underlying28 rfl rfl (ac_new2 _ _ _) infoRd21, rfl, bA (bel1 _ _) _⟩
set_option maxHeartbeats 2000000 in
theorem anewS_any (a0 a1 a2 a3 a4 a5 a6 a7 a8 a9 a10 a11 a12 a13 a14 k l i : Int) (p q : Nat) (w : World) (hp : w.cell? ⟨p, 0, none⟩ = some (.int .i64 k)) (hq0 : w.cell? ⟨q, 0, none⟩ = some (.int .i64 l)) (hq1 : w.cell? ⟨q, 1, none⟩ = some (.int .i64 i)) :
    Calls Tryz.prog 74 #[.agg #[.int .i64 a0, .int .i64 a1, .int .i64 a2, .int .i64 a3, .int .i64 a4, .int .i64 a5, .int .i64 a6, .int .i64 a7, .int .i64 a8, .int .i64 a9, .int .i64 a10, .int .i64 a11, .int .i64 a12, .int .i64 a13, .int .i64 a14], .pointer (some ⟨p, 0, none⟩), .pointer (some ⟨q, 0, none⟩)] w fun e w' => e = .returned (.agg #[.int .i64 a0, .int .i64 a1, .int .i64 a2, .int .i64 a3, .int .i64 a4, .int .i64 a5, .int .i64 a6, .int .i64 a7, .int .i64 a8, .int .i64 a9, .int .i64 a10, .int .i64 k, .int .i64 l, .int .i64 i, .int .i64 0]) ∧ Below w.heap.size w w' := by
  have B2 := bA (bel1 w (.cells #[.int .i64 a0, .int .i64 a1, .int .i64 a2, .int .i64 a3, .int .i64 a4, .int .i64 a5, .int .i64 a6, .int .i64 a7, .int .i64 a8, .int .i64 a9, .int .i64 a10, .int .i64 a11, .int .i64 a12, .int .i64 a13, .int .i64 a14] 28)) (.cells #[.int .i64 0, .int .i64 0, .int .i64 0, .int .i64 0, .int .i64 0, .int .i64 0, .int .i64 0, .int .i64 0, .int .i64 0, .int .i64 0, .int .i64 0, .int .i64 0, .int .i64 0, .int .i64 0, .int .i64 0] 28)
  have hp2 := keep_cell B2 hp
  have hq2 := keep_cell B2 hq0
  have hq3 := keep_cell B2 hq1
  go_enter Tryz.func74, Tryz.ntmps74
  go_wp2
  exact ⟨rfl, _, ac_results1 rfl Tryz.underlying28 rfl rfl (ac_new2 _ _ _) infoRd21, rfl, bA (bel1 _ _) _⟩
set_option maxHeartbeats 4000000 in
theorem goesB_bad (A B : Option Addr) (c n m cb p q : Nat) (a0 a1 a2 a3 a4 a5 a6 a7 a8 a9 a10 a11 a12 a13 a14 z : Int) (w : World) (hz : (z != 0) = true) (hD : ∀ W, Below w.heap.size w W → Calls Tryz.prog 17 #[.slice A n c, .slice B m cb] W fun e w' => e = .returned (.tuple #[.agg #[.int .i64 a0, .int .i64 a1, .int .i64 a2, .int .i64 a3, .int .i64 a4, .int .i64 a5, .int .i64 a6, .int .i64 a7, .int .i64 a8, .int .i64 a9, .int .i64 a10, .int .i64 a11, .int .i64 a12, .int .i64 a13, .int .i64 a14], .int .i64 z]) ∧ Below W.heap.size W w') :
    Calls Tryz.prog 70 #[.agg #[.func (.func 17) #[] #[], .func (.func 69) #[] #[]], .slice A n c, .slice B m cb, .func (.func 71) #[] #[.pointer (some ⟨p, 0, none⟩), .pointer (some ⟨q, 0, none⟩)]] w fun e w' => e = .returned (.tuple #[.agg #[.int .i64 0, .int .i64 0, .int .i64 0, .int .i64 0, .int .i64 0, .int .i64 0, .int .i64 0, .int .i64 0, .int .i64 0, .int .i64 0, .int .i64 0, .int .i64 0, .int .i64 0, .int .i64 0, .int .i64 0], .slice none 0 0, .int .i64 z]) ∧ Below w.heap.size w w' := by
  have P0 : ((w.alloc (.cells #[.func (.func 17) #[] #[], .func (.func 69) #[] #[]] 90)).alloc (.cells #[.int .i64 0, .int .i64 0, .int .i64 0, .int .i64 0, .int .i64 0, .int .i64 0, .int .i64 0, .int .i64 0, .int .i64 0, .int .i64 0, .int .i64 0, .int .i64 0, .int .i64 0, .int .i64 0, .int .i64 0] 28)).heap[w.heap.size]? = some (.cells #[.func (.func 17) #[] #[], .func (.func 69) #[] #[]] 90 (0, 0)) := heap_alloc2_old w _ _
  have P8 : ((w.alloc (.cells #[.func (.func 17) #[] #[], .func (.func 69) #[] #[]] 90)).alloc (.cells #[.int .i64 0, .int .i64 0, .int .i64 0, .int .i64 0, .int .i64 0, .int .i64 0, .int .i64 0, .int .i64 0, .int .i64 0, .int .i64 0, .int .i64 0, .int .i64 0, .int .i64 0, .int .i64 0, .int .i64 0] 28)).heap[w.heap.size + 1]? = some (.cells #[.int .i64 0, .int .i64 0, .int .i64 0, .int .i64 0, .int .i64 0, .int .i64 0, .int .i64 0, .int .i64 0, .int .i64 0, .int .i64 0, .int .i64 0, .int .i64 0, .int .i64 0, .int .i64 0, .int .i64 0] 28 (0, 0)) := by
    have h := heap_alloc_new (w.alloc (.cells #[.func (.func 17) #[] #[], .func (.func 69) #[] #[]] 90)) (.cells #[.int .i64 0, .int .i64 0, .int .i64 0, .int .i64 0, .int .i64 0, .int .i64 0, .int .i64 0, .int .i64 0, .int .i64 0, .int .i64 0, .int .i64 0, .int .i64 0, .int .i64 0, .int .i64 0, .int .i64 0] 28)
    rw [World.size_alloc] at h
    exact h
  have B2 := bA (bel1 w (.cells #[.func (.func 17) #[] #[], .func (.func 69) #[] #[]] 90)) (.cells #[.int .i64 0, .int .i64 0, .int .i64 0, .int .i64 0, .int .i64 0, .int .i64 0, .int .i64 0, .int .i64 0, .int .i64 0, .int .i64 0, .int .i64 0, .int .i64 0, .int .i64 0, .int .i64 0, .int .i64 0] 28)
  have T0 := cell_of_row _ _ 0 _ _ _ P0
  go_enter Tryz.func70, Tryz.ntmps70
  go_wp2_with (first | (go_at_call 17; (with_reducible refine (hD _ B2).mono ?_); rintro e w5 ⟨rfl, hb5⟩; have Q0 := (hb5.block _ (Array.getElem?_eq_some_iff.1 P0).1).trans P0; have Q8 := (hb5.block _ (Array.getElem?_eq_some_iff.1 P8).1).trans P8; have B5 := bT B2 hb5; have C6 := bel1 w5 (.cells #[.int .i64 a0, .int .i64 a1, .int .i64 a2, .int .i64 a3, .int .i64 a4, .int .i64 a5, .int .i64 a6, .int .i64 a7, .int .i64 a8, .int .i64 a9, .int .i64 a10, .int .i64 a11, .int .i64 a12, .int .i64 a13, .int .i64 a14] 28); have R0 := (C6.block _ (Array.getElem?_eq_some_iff.1 Q0).1).trans Q0; have R8 := (C6.block _ (Array.getElem?_eq_some_iff.1 Q8).1).trans Q8; have R5 := heap_alloc_new w5 (.cells #[.int .i64 a0, .int .i64 a1, .int .i64 a2, .int .i64 a3, .int .i64 a4, .int .i64 a5, .int .i64 a6, .int .i64 a7, .int .i64 a8, .int .i64 a9, .int .i64 a10, .int .i64 a11, .int .i64 a12, .int .i64 a13, .int .i64 a14] 28); have B6 := bT B5 C6; have T1 := cell_of_row _ _ 1 _ _ _ R0; have U0 := cell_of_row _ _ 0 _ _ _ R5; have U1 := cell_of_row _ _ 1 _ _ _ R5; have U2 := cell_of_row _ _ 2 _ _ _ R5; have U3 := cell_of_row _ _ 3 _ _ _ R5; have U4 := cell_of_row _ _ 4 _ _ _ R5; have U5 := cell_of_row _ _ 5 _ _ _ R5; have U6 := cell_of_row _ _ 6 _ _ _ R5; have U7 := cell_of_row _ _ 7 _ _ _ R5; have U8 := cell_of_row _ _ 8 _ _ _ R5; have U9 := cell_of_row _ _ 9 _ _ _ R5; have U10 := cell_of_row _ _ 10 _ _ _ R5; have U11 := cell_of_row _ _ 11 _ _ _ R5; have U12 := cell_of_row _ _ 12 _ _ _ R5; have U13 := cell_of_row _ _ 13 _ _ _ R5; have U14 := cell_of_row _ _ 14 _ _ _ R5; clear hb5 C6 Q0 Q8) | (refine wpList_store_row rfl 28 _ _ rfl (w.heap.size + 1) #[.int .i64 0, .int .i64 0, .int .i64 0, .int .i64 0, .int .i64 0, .int .i64 0, .int .i64 0, .int .i64 0, .int .i64 0, .int .i64 0, .int .i64 0, .int .i64 0, .int .i64 0, .int .i64 0, .int .i64 0] rfl rfl 28 #[.int .i64 0, .int .i64 0, .int .i64 0, .int .i64 0, .int .i64 0, .int .i64 0, .int .i64 0, .int .i64 0, .int .i64 0, .int .i64 0, .int .i64 0, .int .i64 0, .int .i64 0, .int .i64 0, .int .i64 0] R8 infoRd21 rfl (by simp [Value.oneCell']) ?_))
  exact bodyPost_ret (ac_rowtt rfl Tryz.underlying28 rfl rfl rfl rfl (setRow_heap _ _ _ _ _ _ R8) (by exact infoRd21)) rfl ⟨rfl, setRow_below B6 (Nat.le_succ _)⟩
set_option maxHeartbeats 4000000 in
theorem goesS_bad (A B : Option Addr) (c n m cb p q : Nat) (a0 a1 a2 a3 a4 a5 a6 a7 a8 a9 a10 a11 a12 a13 a14 z : Int) (w : World) (hz : (z != 0) = true) (hD : ∀ W, Below w.heap.size w W → Calls Tryz.prog 31 #[.slice A n c, .slice B m cb] W fun e w' => e = .returned (.tuple #[.agg #[.int .i64 a0, .int .i64 a1, .int .i64 a2, .int .i64 a3, .int .i64 a4, .int .i64 a5, .int .i64 a6, .int .i64 a7, .int .i64 a8, .int .i64 a9, .int .i64 a10, .int .i64 a11, .int .i64 a12, .int .i64 a13, .int .i64 a14], .int .i64 z]) ∧ Below W.heap.size W w') :
    Calls Tryz.prog 70 #[.agg #[.func (.func 31) #[] #[], .func (.func 13) #[] #[]], .slice A n c, .slice B m cb, .func (.func 74) #[] #[.pointer (some ⟨p, 0, none⟩), .pointer (some ⟨q, 0, none⟩)]] w fun e w' => e = .returned (.tuple #[.agg #[.int .i64 0, .int .i64 0, .int .i64 0, .int .i64 0, .int .i64 0, .int .i64 0, .int .i64 0, .int .i64 0, .int .i64 0, .int .i64 0, .int .i64 0, .int .i64 0, .int .i64 0, .int .i64 0, .int .i64 0], .slice none 0 0, .int .i64 z]) ∧ Below w.heap.size w w' := by
  have P0 : ((w.alloc (.cells #[.func (.func 31) #[] #[], .func (.func 13) #[] #[]] 90)).alloc (.cells #[.int .i64 0, .int .i64 0, .int .i64 0, .int .i64 0, .int .i64 0, .int .i64 0, .int .i64 0, .int .i64 0, .int .i64 0, .int .i64 0, .int .i64 0, .int .i64 0, .int .i64 0, .int .i64 0, .int .i64 0] 28)).heap[w.heap.size]? = some (.cells #[.func (.func 31) #[] #[], .func (.func 13) #[] #[]] 90 (0, 0)) := heap_alloc2_old w _ _
  have P8 : ((w.alloc (.cells #[.func (.func 31) #[] #[], .func (.func 13) #[] #[]] 90)).alloc (.cells #[.int .i64 0, .int .i64 0, .int .i64 0, .int .i64 0, .int .i64 0, .int .i64 0, .int .i64 0, .int .i64 0, .int .i64 0, .int .i64 0, .int .i64 0, .int .i64 0, .int .i64 0, .int .i64 0, .int .i64 0] 28)).heap[w.heap.size + 1]? = some (.cells #[.int .i64 0, .int .i64 0, .int .i64 0, .int .i64 0, .int .i64 0, .int .i64 0, .int .i64 0, .int .i64 0, .int .i64 0, .int .i64 0, .int .i64 0, .int .i64 0, .int .i64 0, .int .i64 0, .int .i64 0] 28 (0, 0)) := by
    have h := heap_alloc_new (w.alloc (.cells #[.func (.func 31) #[] #[], .func (.func 13) #[] #[]] 90)) (.cells #[.int .i64 0, .int .i64 0, .int .i64 0, .int .i64 0, .int .i64 0, .int .i64 0, .int .i64 0, .int .i64 0, .int .i64 0, .int .i64 0, .int .i64 0, .int .i64 0, .int .i64 0, .int .i64 0, .int .i64 0] 28)
    rw [World.size_alloc] at h
    exact h
  have B2 := bA (bel1 w (.cells #[.func (.func 31) #[] #[], .func (.func 13) #[] #[]] 90)) (.cells #[.int .i64 0, .int .i64 0, .int .i64 0, .int .i64 0, .int .i64 0, .int .i64 0, .int .i64 0, .int .i64 0, .int .i64 0, .int .i64 0, .int .i64 0, .int .i64 0, .int .i64 0, .int .i64 0, .int .i64 0] 28)
  have T0 := cell_of_row _ _ 0 _ _ _ P0
  go_enter Tryz.func70, Tryz.ntmps70
  go_wp2_with (first | (go_at_call 31; (with_reducible refine (hD _ B2).mono ?_); rintro e w5 ⟨rfl, hb5⟩; have Q0 := (hb5.block _ (Array.getElem?_eq_some_iff.1 P0).1).trans P0; have Q8 := (hb5.block _ (Array.getElem?_eq_some_iff.1 P8).1).trans P8; have B5 := bT B2 hb5; have C6 := bel1 w5 (.cells #[.int .i64 a0, .int .i64 a1, .int .i64 a2, .int .i64 a3, .int .i64 a4, .int .i64 a5, .int .i64 a6, .int .i64 a7, .int .i64 a8, .int .i64 a9, .int .i64 a10, .int .i64 a11, .int .i64 a12, .int .i64 a13, .int .i64 a14] 28); have R0 := (C6.block _ (Array.getElem?_eq_some_iff.1 Q0).1).trans Q0; have R8 := (C6.block _ (Array.getElem?_eq_some_iff.1 Q8).1).trans Q8; have R5 := heap_alloc_new w5 (.cells #[.int .i64 a0, .int .i64 a1, .int .i64 a2, .int .i64 a3, .int .i64 a4, .int .i64 a5, .int .i64 a6, .int .i64 a7, .int .i64 a8, .int .i64 a9, .int .i64 a10, .int .i64 a11, .int .i64 a12, .int .i64 a13, .int .i64 a14] 28); have B6 := bT B5 C6; have T1 := cell_of_row _ _ 1 _ _ _ R0; have U0 := cell_of_row _ _ 0 _ _ _ R5; have U1 := cell_of_row _ _ 1 _ _ _ R5; have U2 := cell_of_row _ _ 2 _ _ _ R5; have U3 := cell_of_row _ _ 3 _ _ _ R5; have U4 := cell_of_row _ _ 4 _ _ _ R5; have U5 := cell_of_row _ _ 5 _ _ _ R5; have U6 := cell_of_row _ _ 6 _ _ _ R5; have U7 := cell_of_row _ _ 7 _ _ _ R5; have U8 := cell_of_row _ _ 8 _ _ _ R5; have U9 := cell_of_row _ _ 9 _ _ _ R5; have U10 := cell_of_row _ _ 10 _ _ _ R5; have U11 := cell_of_row _ _ 11 _ _ _ R5; have U12 := cell_of_row _ _ 12 _ _ _ R5; have U13 := cell_of_row _ _ 13 _ _ _ R5; have U14 := cell_of_row _ _ 14 _ _ _ R5; clear hb5 C6 Q0 Q8) | (refine wpList_store_row rfl 28 _ _ rfl (w.heap.size + 1) #[.int .i64 0, .int .i64 0, .int .i64 0, .int .i64 0, .int .i64 0, .int .i64 0, .int .i64 0, .int .i64 0, .int .i64 0, .int .i64 0, .int .i64 0, .int .i64 0, .int .i64 0, .int .i64 0, .int .i64 0] rfl rfl 28 #[.int .i64 0, .int .i64 0, .int .i64 0, .int .i64 0, .int .i64 0, .int .i64 0, .int .i64 0, .int .i64 0, .int .i64 0, .int .i64 0, .int .i64 0, .int .i64 0, .int .i64 0, .int .i64 0, .int .i64 0] R8 infoRd21 rfl (by simp [Value.oneCell']) ?_))
  exact bodyPost_ret (ac_rowtt rfl Tryz.underlying28 rfl rfl rfl rfl (setRow_heap _ _ _ _ _ _ R8) (by exact infoRd21)) rfl ⟨rfl, setRow_below B6 (Nat.le_succ _)⟩
theorem acB_b {w W X : World} {g5 : Nat} {a0 a1 a2 a3 a4 a5 a6 a7 a8 a9 a10 a11 a12 a13 a14 : Int} (h : W.cell? ⟨w.heap.size, 1, none⟩ = some (.func (.func 69) #[] #[]) ∧ W.cell? ⟨g5, 0, none⟩ = some (.int .i64 a0) ∧ W.cell? ⟨g5, 1, none⟩ = some (.int .i64 a1) ∧ W.cell? ⟨g5, 2, none⟩ = some (.int .i64 a2) ∧ W.cell? ⟨g5, 3, none⟩ = some (.int .i64 a3) ∧ W.cell? ⟨g5, 4, none⟩ = some (.int .i64 a4) ∧ W.cell? ⟨g5, 5, none⟩ = some (.int .i64 a5) ∧ W.cell? ⟨g5, 6, none⟩ = some (.int .i64 a6) ∧ W.cell? ⟨g5, 7, none⟩ = some (.int .i64 a7) ∧ W.cell? ⟨g5, 8, none⟩ = some (.int .i64 a8) ∧ W.cell? ⟨g5, 9, none⟩ = some (.int .i64 a9) ∧ W.cell? ⟨g5, 10, none⟩ = some (.int .i64 a10) ∧ W.cell? ⟨g5, 11, none⟩ = some (.int .i64 a11) ∧ W.cell? ⟨g5, 12, none⟩ = some (.int .i64 a12) ∧ W.cell? ⟨g5, 13, none⟩ = some (.int .i64 a13) ∧ W.cell? ⟨g5, 14, none⟩ = some (.int .i64 a14) ∧ Below X.heap.size X W) : Below X.heap.size X W := h.2.2.2.2.2.2.2.2.2.2.2.2.2.2.2.2
theorem acB_drew {w W X : World} {g5 : Nat} {a0 a1 a2 a3 a4 a5 a6 a7 a8 a9 a10 a11 a12 a13 a14 : Int} (h : W.cell? ⟨w.heap.size, 1, none⟩ = some (.func (.func 69) #[] #[]) ∧ W.cell? ⟨g5, 0, none⟩ = some (.int .i64 a0) ∧ W.cell? ⟨g5, 1, none⟩ = some (.int .i64 a1) ∧ W.cell? ⟨g5, 2, none⟩ = some (.int .i64 a2) ∧ W.cell? ⟨g5, 3, none⟩ = some (.int .i64 a3) ∧ W.cell? ⟨g5, 4, none⟩ = some (.int .i64 a4) ∧ W.cell? ⟨g5, 5, none⟩ = some (.int .i64 a5) ∧ W.cell? ⟨g5, 6, none⟩ = some (.int .i64 a6) ∧ W.cell? ⟨g5, 7, none⟩ = some (.int .i64 a7) ∧ W.cell? ⟨g5, 8, none⟩ = some (.int .i64 a8) ∧ W.cell? ⟨g5, 9, none⟩ = some (.int .i64 a9) ∧ W.cell? ⟨g5, 10, none⟩ = some (.int .i64 a10) ∧ W.cell? ⟨g5, 11, none⟩ = some (.int .i64 a11) ∧ W.cell? ⟨g5, 12, none⟩ = some (.int .i64 a12) ∧ W.cell? ⟨g5, 13, none⟩ = some (.int .i64 a13) ∧ W.cell? ⟨g5, 14, none⟩ = some (.int .i64 a14) ∧ Below X.heap.size X W) : W.drew.cell? ⟨w.heap.size, 1, none⟩ = some (.func (.func 69) #[] #[]) ∧ W.drew.cell? ⟨g5, 0, none⟩ = some (.int .i64 a0) ∧ W.drew.cell? ⟨g5, 1, none⟩ = some (.int .i64 a1) ∧ W.drew.cell? ⟨g5, 2, none⟩ = some (.int .i64 a2) ∧ W.drew.cell? ⟨g5, 3, none⟩ = some (.int .i64 a3) ∧ W.drew.cell? ⟨g5, 4, none⟩ = some (.int .i64 a4) ∧ W.drew.cell? ⟨g5, 5, none⟩ = some (.int .i64 a5) ∧ W.drew.cell? ⟨g5, 6, none⟩ = some (.int .i64 a6) ∧ W.drew.cell? ⟨g5, 7, none⟩ = some (.int .i64 a7) ∧ W.drew.cell? ⟨g5, 8, none⟩ = some (.int .i64 a8) ∧ W.drew.cell? ⟨g5, 9, none⟩ = some (.int .i64 a9) ∧ W.drew.cell? ⟨g5, 10, none⟩ = some (.int .i64 a10) ∧ W.drew.cell? ⟨g5, 11, none⟩ = some (.int .i64 a11) ∧ W.drew.cell? ⟨g5, 12, none⟩ = some (.int .i64 a12) ∧ W.drew.cell? ⟨g5, 13, none⟩ = some (.int .i64 a13) ∧ W.drew.cell? ⟨g5, 14, none⟩ = some (.int .i64 a14) ∧ Below X.heap.size X W.drew := ⟨h.1, h.2.1, h.2.2.1, h.2.2.2.1, h.2.2.2.2.1, h.2.2.2.2.2.1, h.2.2.2.2.2.2.1, h.2.2.2.2.2.2.2.1, h.2.2.2.2.2.2.2.2.1, h.2.2.2.2.2.2.2.2.2.1, h.2.2.2.2.2.2.2.2.2.2.1, h.2.2.2.2.2.2.2.2.2.2.2.1, h.2.2.2.2.2.2.2.2.2.2.2.2.1, h.2.2.2.2.2.2.2.2.2.2.2.2.2.1, h.2.2.2.2.2.2.2.2.2.2.2.2.2.2.1, h.2.2.2.2.2.2.2.2.2.2.2.2.2.2.2.1, bD h.2.2.2.2.2.2.2.2.2.2.2.2.2.2.2.2⟩
theorem acB_drewN {w W X : World} {g5 : Nat} {a0 a1 a2 a3 a4 a5 a6 a7 a8 a9 a10 a11 a12 a13 a14 : Int} {d : Nat} (h : W.cell? ⟨w.heap.size, 1, none⟩ = some (.func (.func 69) #[] #[]) ∧ W.cell? ⟨g5, 0, none⟩ = some (.int .i64 a0) ∧ W.cell? ⟨g5, 1, none⟩ = some (.int .i64 a1) ∧ W.cell? ⟨g5, 2, none⟩ = some (.int .i64 a2) ∧ W.cell? ⟨g5, 3, none⟩ = some (.int .i64 a3) ∧ W.cell? ⟨g5, 4, none⟩ = some (.int .i64 a4) ∧ W.cell? ⟨g5, 5, none⟩ = some (.int .i64 a5) ∧ W.cell? ⟨g5, 6, none⟩ = some (.int .i64 a6) ∧ W.cell? ⟨g5, 7, none⟩ = some (.int .i64 a7) ∧ W.cell? ⟨g5, 8, none⟩ = some (.int .i64 a8) ∧ W.cell? ⟨g5, 9, none⟩ = some (.int .i64 a9) ∧ W.cell? ⟨g5, 10, none⟩ = some (.int .i64 a10) ∧ W.cell? ⟨g5, 11, none⟩ = some (.int .i64 a11) ∧ W.cell? ⟨g5, 12, none⟩ = some (.int .i64 a12) ∧ W.cell? ⟨g5, 13, none⟩ = some (.int .i64 a13) ∧ W.cell? ⟨g5, 14, none⟩ = some (.int .i64 a14) ∧ Below X.heap.size X W) : (W.drewN d).cell? ⟨w.heap.size, 1, none⟩ = some (.func (.func 69) #[] #[]) ∧ (W.drewN d).cell? ⟨g5, 0, none⟩ = some (.int .i64 a0) ∧ (W.drewN d).cell? ⟨g5, 1, none⟩ = some (.int .i64 a1) ∧ (W.drewN d).cell? ⟨g5, 2, none⟩ = some (.int .i64 a2) ∧ (W.drewN d).cell? ⟨g5, 3, none⟩ = some (.int .i64 a3) ∧ (W.drewN d).cell? ⟨g5, 4, none⟩ = some (.int .i64 a4) ∧ (W.drewN d).cell? ⟨g5, 5, none⟩ = some (.int .i64 a5) ∧ (W.drewN d).cell? ⟨g5, 6, none⟩ = some (.int .i64 a6) ∧ (W.drewN d).cell? ⟨g5, 7, none⟩ = some (.int .i64 a7) ∧ (W.drewN d).cell? ⟨g5, 8, none⟩ = some (.int .i64 a8) ∧ (W.drewN d).cell? ⟨g5, 9, none⟩ = some (.int .i64 a9) ∧ (W.drewN d).cell? ⟨g5, 10, none⟩ = some (.int .i64 a10) ∧ (W.drewN d).cell? ⟨g5, 11, none⟩ = some (.int .i64 a11) ∧ (W.drewN d).cell? ⟨g5, 12, none⟩ = some (.int .i64 a12) ∧ (W.drewN d).cell? ⟨g5, 13, none⟩ = some (.int .i64 a13) ∧ (W.drewN d).cell? ⟨g5, 14, none⟩ = some (.int .i64 a14) ∧ Below X.heap.size X (W.drewN d) := ⟨h.1, h.2.1, h.2.2.1, h.2.2.2.1, h.2.2.2.2.1, h.2.2.2.2.2.1, h.2.2.2.2.2.2.1, h.2.2.2.2.2.2.2.1, h.2.2.2.2.2.2.2.2.1, h.2.2.2.2.2.2.2.2.2.1, h.2.2.2.2.2.2.2.2.2.2.1, h.2.2.2.2.2.2.2.2.2.2.2.1, h.2.2.2.2.2.2.2.2.2.2.2.2.1, h.2.2.2.2.2.2.2.2.2.2.2.2.2.1, h.2.2.2.2.2.2.2.2.2.2.2.2.2.2.1, h.2.2.2.2.2.2.2.2.2.2.2.2.2.2.2.1, bN h.2.2.2.2.2.2.2.2.2.2.2.2.2.2.2.2 d⟩
theorem acB_keep {w W X : World} {g5 : Nat} {a0 a1 a2 a3 a4 a5 a6 a7 a8 a9 a10 a11 a12 a13 a14 : Int} {W' : World} (h : W.cell? ⟨w.heap.size, 1, none⟩ = some (.func (.func 69) #[] #[]) ∧ W.cell? ⟨g5, 0, none⟩ = some (.int .i64 a0) ∧ W.cell? ⟨g5, 1, none⟩ = some (.int .i64 a1) ∧ W.cell? ⟨g5, 2, none⟩ = some (.int .i64 a2) ∧ W.cell? ⟨g5, 3, none⟩ = some (.int .i64 a3) ∧ W.cell? ⟨g5, 4, none⟩ = some (.int .i64 a4) ∧ W.cell? ⟨g5, 5, none⟩ = some (.int .i64 a5) ∧ W.cell? ⟨g5, 6, none⟩ = some (.int .i64 a6) ∧ W.cell? ⟨g5, 7, none⟩ = some (.int .i64 a7) ∧ W.cell? ⟨g5, 8, none⟩ = some (.int .i64 a8) ∧ W.cell? ⟨g5, 9, none⟩ = some (.int .i64 a9) ∧ W.cell? ⟨g5, 10, none⟩ = some (.int .i64 a10) ∧ W.cell? ⟨g5, 11, none⟩ = some (.int .i64 a11) ∧ W.cell? ⟨g5, 12, none⟩ = some (.int .i64 a12) ∧ W.cell? ⟨g5, 13, none⟩ = some (.int .i64 a13) ∧ W.cell? ⟨g5, 14, none⟩ = some (.int .i64 a14) ∧ Below X.heap.size X W) (hb : Below W.heap.size W W') : W'.cell? ⟨w.heap.size, 1, none⟩ = some (.func (.func 69) #[] #[]) ∧ W'.cell? ⟨g5, 0, none⟩ = some (.int .i64 a0) ∧ W'.cell? ⟨g5, 1, none⟩ = some (.int .i64 a1) ∧ W'.cell? ⟨g5, 2, none⟩ = some (.int .i64 a2) ∧ W'.cell? ⟨g5, 3, none⟩ = some (.int .i64 a3) ∧ W'.cell? ⟨g5, 4, none⟩ = some (.int .i64 a4) ∧ W'.cell? ⟨g5, 5, none⟩ = some (.int .i64 a5) ∧ W'.cell? ⟨g5, 6, none⟩ = some (.int .i64 a6) ∧ W'.cell? ⟨g5, 7, none⟩ = some (.int .i64 a7) ∧ W'.cell? ⟨g5, 8, none⟩ = some (.int .i64 a8) ∧ W'.cell? ⟨g5, 9, none⟩ = some (.int .i64 a9) ∧ W'.cell? ⟨g5, 10, none⟩ = some (.int .i64 a10) ∧ W'.cell? ⟨g5, 11, none⟩ = some (.int .i64 a11) ∧ W'.cell? ⟨g5, 12, none⟩ = some (.int .i64 a12) ∧ W'.cell? ⟨g5, 13, none⟩ = some (.int .i64 a13) ∧ W'.cell? ⟨g5, 14, none⟩ = some (.int .i64 a14) ∧ Below X.heap.size X W' := ⟨keep_cell hb h.1, keep_cell hb h.2.1, keep_cell hb h.2.2.1, keep_cell hb h.2.2.2.1, keep_cell hb h.2.2.2.2.1, keep_cell hb h.2.2.2.2.2.1, keep_cell hb h.2.2.2.2.2.2.1, keep_cell hb h.2.2.2.2.2.2.2.1, keep_cell hb h.2.2.2.2.2.2.2.2.1, keep_cell hb h.2.2.2.2.2.2.2.2.2.1, keep_cell hb h.2.2.2.2.2.2.2.2.2.2.1, keep_cell hb h.2.2.2.2.2.2.2.2.2.2.2.1, keep_cell hb h.2.2.2.2.2.2.2.2.2.2.2.2.1, keep_cell hb h.2.2.2.2.2.2.2.2.2.2.2.2.2.1, keep_cell hb h.2.2.2.2.2.2.2.2.2.2.2.2.2.2.1, keep_cell hb h.2.2.2.2.2.2.2.2.2.2.2.2.2.2.2.1, bT h.2.2.2.2.2.2.2.2.2.2.2.2.2.2.2.2 hb⟩
theorem acS_b {w W X : World} {g5 : Nat} {a0 a1 a2 a3 a4 a5 a6 a7 a8 a9 a10 a11 a12 a13 a14 : Int} (h : W.cell? ⟨w.heap.size, 1, none⟩ = some (.func (.func 13) #[] #[]) ∧ W.cell? ⟨g5, 0, none⟩ = some (.int .i64 a0) ∧ W.cell? ⟨g5, 1, none⟩ = some (.int .i64 a1) ∧ W.cell? ⟨g5, 2, none⟩ = some (.int .i64 a2) ∧ W.cell? ⟨g5, 3, none⟩ = some (.int .i64 a3) ∧ W.cell? ⟨g5, 4, none⟩ = some (.int .i64 a4) ∧ W.cell? ⟨g5, 5, none⟩ = some (.int .i64 a5) ∧ W.cell? ⟨g5, 6, none⟩ = some (.int .i64 a6) ∧ W.cell? ⟨g5, 7, none⟩ = some (.int .i64 a7) ∧ W.cell? ⟨g5, 8, none⟩ = some (.int .i64 a8) ∧ W.cell? ⟨g5, 9, none⟩ = some (.int .i64 a9) ∧ W.cell? ⟨g5, 10, none⟩ = some (.int .i64 a10) ∧ W.cell? ⟨g5, 11, none⟩ = some (.int .i64 a11) ∧ W.cell? ⟨g5, 12, none⟩ = some (.int .i64 a12) ∧ W.cell? ⟨g5, 13, none⟩ = some (.int .i64 a13) ∧ W.cell? ⟨g5, 14, none⟩ = some (.int .i64 a14) ∧ Below X.heap.size X W) : Below X.heap.size X W := h.2.2.2.2.2.2.2.2.2.2.2.2.2.2.2.2
theorem acS_drew {w W X : World} {g5 : Nat} {a0 a1 a2 a3 a4 a5 a6 a7 a8 a9 a10 a11 a12 a13 a14 : Int} (h : W.cell? ⟨w.heap.size, 1, none⟩ = some (.func (.func 13) #[] #[]) ∧ W.cell? ⟨g5, 0, none⟩ = some (.int .i64 a0) ∧ W.cell? ⟨g5, 1, none⟩ = some (.int .i64 a1) ∧ W.cell? ⟨g5, 2, none⟩ = some (.int .i64 a2) ∧ W.cell? ⟨g5, 3, none⟩ = some (.int .i64 a3) ∧ W.cell? ⟨g5, 4, none⟩ = some (.int .i64 a4) ∧ W.cell? ⟨g5, 5, none⟩ = some (.int .i64 a5) ∧ W.cell? ⟨g5, 6, none⟩ = some (.int .i64 a6) ∧ W.cell? ⟨g5, 7, none⟩ = some (.int .i64 a7) ∧ W.cell? ⟨g5, 8, none⟩ = some (.int .i64 a8) ∧ W.cell? ⟨g5, 9, none⟩ = some (.int .i64 a9) ∧ W.cell? ⟨g5, 10, none⟩ = some (.int .i64 a10) ∧ W.cell? ⟨g5, 11, none⟩ = some (.int .i64 a11) ∧ W.cell? ⟨g5, 12, none⟩ = some (.int .i64 a12) ∧ W.cell? ⟨g5, 13, none⟩ = some (.int .i64 a13) ∧ W.cell? ⟨g5, 14, none⟩ = some (.int .i64 a14) ∧ Below X.heap.size X W) : W.drew.cell? ⟨w.heap.size, 1, none⟩ = some (.func (.func 13) #[] #[]) ∧ W.drew.cell? ⟨g5, 0, none⟩ = some (.int .i64 a0) ∧ W.drew.cell? ⟨g5, 1, none⟩ = some (.int .i64 a1) ∧ W.drew.cell? ⟨g5, 2, none⟩ = some (.int .i64 a2) ∧ W.drew.cell? ⟨g5, 3, none⟩ = some (.int .i64 a3) ∧ W.drew.cell? ⟨g5, 4, none⟩ = some (.int .i64 a4) ∧ W.drew.cell? ⟨g5, 5, none⟩ = some (.int .i64 a5) ∧ W.drew.cell? ⟨g5, 6, none⟩ = some (.int .i64 a6) ∧ W.drew.cell? ⟨g5, 7, none⟩ = some (.int .i64 a7) ∧ W.drew.cell? ⟨g5, 8, none⟩ = some (.int .i64 a8) ∧ W.drew.cell? ⟨g5, 9, none⟩ = some (.int .i64 a9) ∧ W.drew.cell? ⟨g5, 10, none⟩ = some (.int .i64 a10) ∧ W.drew.cell? ⟨g5, 11, none⟩ = some (.int .i64 a11) ∧ W.drew.cell? ⟨g5, 12, none⟩ = some (.int .i64 a12) ∧ W.drew.cell? ⟨g5, 13, none⟩ = some (.int .i64 a13) ∧ W.drew.cell? ⟨g5, 14, none⟩ = some (.int .i64 a14) ∧ Below X.heap.size X W.drew := ⟨h.1, h.2.1, h.2.2.1, h.2.2.2.1, h.2.2.2.2.1, h.2.2.2.2.2.1, h.2.2.2.2.2.2.1, h.2.2.2.2.2.2.2.1, h.2.2.2.2.2.2.2.2.1, h.2.2.2.2.2.2.2.2.2.1, h.2.2.2.2.2.2.2.2.2.2.1, h.2.2.2.2.2.2.2.2.2.2.2.1, h.2.2.2.2.2.2.2.2.2.2.2.2.1, h.2.2.2.2.2.2.2.2.2.2.2.2.2.1, h.2.2.2.2.2.2.2.2.2.2.2.2.2.2.1, h.2.2.2.2.2.2.2.2.2.2.2.2.2.2.2.1, bD h.2.2.2.2.2.2.2.2.2.2.2.2.2.2.2.2⟩
theorem acS_drewN {w W X : World} {g5 : Nat} {a0 a1 a2 a3 a4 a5 a6 a7 a8 a9 a10 a11 a12 a13 a14 : Int} {d : Nat} (h : W.cell? ⟨w.heap.size, 1, none⟩ = some (.func (.func 13) #[] #[]) ∧ W.cell? ⟨g5, 0, none⟩ = some (.int .i64 a0) ∧ W.cell? ⟨g5, 1, none⟩ = some (.int .i64 a1) ∧ W.cell? ⟨g5, 2, none⟩ = some (.int .i64 a2) ∧ W.cell? ⟨g5, 3, none⟩ = some (.int .i64 a3) ∧ W.cell? ⟨g5, 4, none⟩ = some (.int .i64 a4) ∧ W.cell? ⟨g5, 5, none⟩ = some (.int .i64 a5) ∧ W.cell? ⟨g5, 6, none⟩ = some (.int .i64 a6) ∧ W.cell? ⟨g5, 7, none⟩ = some (.int .i64 a7) ∧ W.cell? ⟨g5, 8, none⟩ = some (.int .i64 a8) ∧ W.cell? ⟨g5, 9, none⟩ = some (.int .i64 a9) ∧ W.cell? ⟨g5, 10, none⟩ = some (.int .i64 a10) ∧ W.cell? ⟨g5, 11, none⟩ = some (.int .i64 a11) ∧ W.cell? ⟨g5, 12, none⟩ = some (.int .i64 a12) ∧ W.cell? ⟨g5, 13, none⟩ = some (.int .i64 a13) ∧ W.cell? ⟨g5, 14, none⟩ = some (.int .i64 a14) ∧ Below X.heap.size X W) : (W.drewN d).cell? ⟨w.heap.size, 1, none⟩ = some (.func (.func 13) #[] #[]) ∧ (W.drewN d).cell? ⟨g5, 0, none⟩ = some (.int .i64 a0) ∧ (W.drewN d).cell? ⟨g5, 1, none⟩ = some (.int .i64 a1) ∧ (W.drewN d).cell? ⟨g5, 2, none⟩ = some (.int .i64 a2) ∧ (W.drewN d).cell? ⟨g5, 3, none⟩ = some (.int .i64 a3) ∧ (W.drewN d).cell? ⟨g5, 4, none⟩ = some (.int .i64 a4) ∧ (W.drewN d).cell? ⟨g5, 5, none⟩ = some (.int .i64 a5) ∧ (W.drewN d).cell? ⟨g5, 6, none⟩ = some (.int .i64 a6) ∧ (W.drewN d).cell? ⟨g5, 7, none⟩ = some (.int .i64 a7) ∧ (W.drewN d).cell? ⟨g5, 8, none⟩ = some (.int .i64 a8) ∧ (W.drewN d).cell? ⟨g5, 9, none⟩ = some (.int .i64 a9) ∧ (W.drewN d).cell? ⟨g5, 10, none⟩ = some (.int .i64 a10) ∧ (W.drewN d).cell? ⟨g5, 11, none⟩ = some (.int .i64 a11) ∧ (W.drewN d).cell? ⟨g5, 12, none⟩ = some (.int .i64 a12) ∧ (W.drewN d).cell? ⟨g5, 13, none⟩ = some (.int .i64 a13) ∧ (W.drewN d).cell? ⟨g5, 14, none⟩ = some (.int .i64 a14) ∧ Below X.heap.size X (W.drewN d) := ⟨h.1, h.2.1, h.2.2.1, h.2.2.2.1, h.2.2.2.2.1, h.2.2.2.2.2.1, h.2.2.2.2.2.2.1, h.2.2.2.2.2.2.2.1, h.2.2.2.2.2.2.2.2.1, h.2.2.2.2.2.2.2.2.2.1, h.2.2.2.2.2.2.2.2.2.2.1, h.2.2.2.2.2.2.2.2.2.2.2.1, h.2.2.2.2.2.2.2.2.2.2.2.2.1, h.2.2.2.2.2.2.2.2.2.2.2.2.2.1, h.2.2.2.2.2.2.2.2.2.2.2.2.2.2.1, h.2.2.2.2.2.2.2.2.2.2.2.2.2.2.2.1, bN h.2.2.2.2.2.2.2.2.2.2.2.2.2.2.2.2 d⟩
theorem acS_keep {w W X : World} {g5 : Nat} {a0 a1 a2 a3 a4 a5 a6 a7 a8 a9 a10 a11 a12 a13 a14 : Int} {W' : World} (h : W.cell? ⟨w.heap.size, 1, none⟩ = some (.func (.func 13) #[] #[]) ∧ W.cell? ⟨g5, 0, none⟩ = some (.int .i64 a0) ∧ W.cell? ⟨g5, 1, none⟩ = some (.int .i64 a1) ∧ W.cell? ⟨g5, 2, none⟩ = some (.int .i64 a2) ∧ W.cell? ⟨g5, 3, none⟩ = some (.int .i64 a3) ∧ W.cell? ⟨g5, 4, none⟩ = some (.int .i64 a4) ∧ W.cell? ⟨g5, 5, none⟩ = some (.int .i64 a5) ∧ W.cell? ⟨g5, 6, none⟩ = some (.int .i64 a6) ∧ W.cell? ⟨g5, 7, none⟩ = some (.int .i64 a7) ∧ W.cell? ⟨g5, 8, none⟩ = some (.int .i64 a8) ∧ W.cell? ⟨g5, 9, none⟩ = some (.int .i64 a9) ∧ W.cell? ⟨g5, 10, none⟩ = some (.int .i64 a10) ∧ W.cell? ⟨g5, 11, none⟩ = some (.int .i64 a11) ∧ W.cell? ⟨g5, 12, none⟩ = some (.int .i64 a12) ∧ W.cell? ⟨g5, 13, none⟩ = some (.int .i64 a13) ∧ W.cell? ⟨g5, 14, none⟩ = some (.int .i64 a14) ∧ Below X.heap.size X W) (hb : Below W.heap.size W W') : W'.cell? ⟨w.heap.size, 1, none⟩ = some (.func (.func 13) #[] #[]) ∧ W'.cell? ⟨g5, 0, none⟩ = some (.int .i64 a0) ∧ W'.cell? ⟨g5, 1, none⟩ = some (.int .i64 a1) ∧ W'.cell? ⟨g5, 2, none⟩ = some (.int .i64 a2) ∧ W'.cell? ⟨g5, 3, none⟩ = some (.int .i64 a3) ∧ W'.cell? ⟨g5, 4, none⟩ = some (.int .i64 a4) ∧ W'.cell? ⟨g5, 5, none⟩ = some (.int .i64 a5) ∧ W'.cell? ⟨g5, 6, none⟩ = some (.int .i64 a6) ∧ W'.cell? ⟨g5, 7, none⟩ = some (.int .i64 a7) ∧ W'.cell? ⟨g5, 8, none⟩ = some (.int .i64 a8) ∧ W'.cell? ⟨g5, 9, none⟩ = some (.int .i64 a9) ∧ W'.cell? ⟨g5, 10, none⟩ = some (.int .i64 a10) ∧ W'.cell? ⟨g5, 11, none⟩ = some (.int .i64 a11) ∧ W'.cell? ⟨g5, 12, none⟩ = some (.int .i64 a12) ∧ W'.cell? ⟨g5, 13, none⟩ = some (.int .i64 a13) ∧ W'.cell? ⟨g5, 14, none⟩ = some (.int .i64 a14) ∧ Below X.heap.size X W' := ⟨keep_cell hb h.1, keep_cell hb h.2.1, keep_cell hb h.2.2.1, keep_cell hb h.2.2.2.1, keep_cell hb h.2.2.2.2.1, keep_cell hb h.2.2.2.2.2.1, keep_cell hb h.2.2.2.2.2.2.1, keep_cell hb h.2.2.2.2.2.2.2.1, keep_cell hb h.2.2.2.2.2.2.2.2.1, keep_cell hb h.2.2.2.2.2.2.2.2.2.1, keep_cell hb h.2.2.2.2.2.2.2.2.2.2.1, keep_cell hb h.2.2.2.2.2.2.2.2.2.2.2.1, keep_cell hb h.2.2.2.2.2.2.2.2.2.2.2.2.1, keep_cell hb h.2.2.2.2.2.2.2.2.2.2.2.2.2.1, keep_cell hb h.2.2.2.2.2.2.2.2.2.2.2.2.2.2.1, keep_cell hb h.2.2.2.2.2.2.2.2.2.2.2.2.2.2.2.1, bT h.2.2.2.2.2.2.2.2.2.2.2.2.2.2.2.2 hb⟩
set_option maxHeartbeats 8000000 in
theorem goesB_ok (A B : Option Addr) (c n m cb p q : Nat) (a0 a1 a2 a3 a4 a5 a6 a7 a8 a9 a10 a11 a12 a13 a14 k v : Int) (s : List Int) (y : Int) (w : World) (hD : ∀ W, Below w.heap.size w W → Calls Tryz.prog 17 #[.slice A n c, .slice B m cb] W fun e w' => e = .returned (.tuple #[.agg #[.int .i64 a0, .int .i64 a1, .int .i64 a2, .int .i64 a3, .int .i64 a4, .int .i64 a5, .int .i64 a6, .int .i64 a7, .int .i64 a8, .int .i64 a9, .int .i64 a10, .int .i64 a11, .int .i64 a12, .int .i64 a13, .int .i64 a14], .int .i64 0]) ∧ Below W.heap.size W w')
    (hC : ∀ W, Below w.heap.size w W → Calls Tryz.prog 71 #[.agg #[.int .i64 a0, .int .i64 a1, .int .i64 a2, .int .i64 a3, .int .i64 a4, .int .i64 a5, .int .i64 a6, .int .i64 a7, .int .i64 a8, .int .i64 a9, .int .i64 a10, .int .i64 a11, .int .i64 a12, .int .i64 a13, .int .i64 a14], .pointer (some ⟨p, 0, none⟩), .pointer (some ⟨q, 0, none⟩)] W fun e w' => e = .returned (.agg #[.int .i64 a0, .int .i64 a1, .int .i64 a2, .int .i64 a3, .int .i64 a4, .int .i64 a5, .int .i64 a6, .int .i64 a7, .int .i64 a8, .int .i64 a9, .int .i64 a10, .int .i64 k, .int .i64 0, .int .i64 0, .int .i64 v]) ∧ Below W.heap.size W w')
    (hE : ∀ W, Below w.heap.size w W → Calls Tryz.prog 69 #[.slice A n c, .agg #[.int .i64 a0, .int .i64 a1, .int .i64 a2, .int .i64 a3, .int .i64 a4, .int .i64 a5, .int .i64 a6, .int .i64 a7, .int .i64 a8, .int .i64 a9, .int .i64 a10, .int .i64 k, .int .i64 0, .int .i64 0, .int .i64 v]] W (ByteRetE (s, y) W)) :
    Calls Tryz.prog 70 #[.agg #[.func (.func 17) #[] #[], .func (.func 69) #[] #[]], .slice A n c, .slice B m cb, .func (.func 71) #[] #[.pointer (some ⟨p, 0, none⟩), .pointer (some ⟨q, 0, none⟩)]] w (AcRet #[.int .i64 a0, .int .i64 a1, .int .i64 a2, .int .i64 a3, .int .i64 a4, .int .i64 a5, .int .i64 a6, .int .i64 a7, .int .i64 a8, .int .i64 a9, .int .i64 a10, .int .i64 a11, .int .i64 a12, .int .i64 a13, .int .i64 a14] s y w) := by
  have P0 : ((w.alloc (.cells #[.func (.func 17) #[] #[], .func (.func 69) #[] #[]] 90)).alloc (.cells #[.int .i64 0, .int .i64 0, .int .i64 0, .int .i64 0, .int .i64 0, .int .i64 0, .int .i64 0, .int .i64 0, .int .i64 0, .int .i64 0, .int .i64 0, .int .i64 0, .int .i64 0, .int .i64 0, .int .i64 0] 28)).heap[w.heap.size]? = some (.cells #[.func (.func 17) #[] #[], .func (.func 69) #[] #[]] 90 (0, 0)) := heap_alloc2_old w _ _
  have P8 : ((w.alloc (.cells #[.func (.func 17) #[] #[], .func (.func 69) #[] #[]] 90)).alloc (.cells #[.int .i64 0, .int .i64 0, .int .i64 0, .int .i64 0, .int .i64 0, .int .i64 0, .int .i64 0, .int .i64 0, .int .i64 0, .int .i64 0, .int .i64 0, .int .i64 0, .int .i64 0, .int .i64 0, .int .i64 0] 28)).heap[w.heap.size + 1]? = some (.cells #[.int .i64 0, .int .i64 0, .int .i64 0, .int .i64 0, .int .i64 0, .int .i64 0, .int .i64 0, .int .i64 0, .int .i64 0, .int .i64 0, .int .i64 0, .int .i64 0, .int .i64 0, .int .i64 0, .int .i64 0] 28 (0, 0)) := by
    have h := heap_alloc_new (w.alloc (.cells #[.func (.func 17) #[] #[], .func (.func 69) #[] #[]] 90)) (.cells #[.int .i64 0, .int .i64 0, .int .i64 0, .int .i64 0, .int .i64 0, .int .i64 0, .int .i64 0, .int .i64 0, .int .i64 0, .int .i64 0, .int .i64 0, .int .i64 0, .int .i64 0, .int .i64 0, .int .i64 0] 28)
    rw [World.size_alloc] at h
    exact h
  have B2 := bA (bel1 w (.cells #[.func (.func 17) #[] #[], .func (.func 69) #[] #[]] 90)) (.cells #[.int .i64 0, .int .i64 0, .int .i64 0, .int .i64 0, .int .i64 0, .int .i64 0, .int .i64 0, .int .i64 0, .int .i64 0, .int .i64 0, .int .i64 0, .int .i64 0, .int .i64 0, .int .i64 0, .int .i64 0] 28)
  have T0 := cell_of_row _ _ 0 _ _ _ P0
  go_enter Tryz.func70, Tryz.ntmps70
  go_wp2_with (go_at_call 17; (with_reducible refine (hD _ B2).mono ?_); rintro e w5 ⟨rfl, hb5⟩; have Q0 := (hb5.block _ (Array.getElem?_eq_some_iff.1 P0).1).trans P0; have Q8 := (hb5.block _ (Array.getElem?_eq_some_iff.1 P8).1).trans P8; have B5 := bT B2 hb5; have C6 := bel1 w5 (.cells #[.int .i64 a0, .int .i64 a1, .int .i64 a2, .int .i64 a3, .int .i64 a4, .int .i64 a5, .int .i64 a6, .int .i64 a7, .int .i64 a8, .int .i64 a9, .int .i64 a10, .int .i64 a11, .int .i64 a12, .int .i64 a13, .int .i64 a14] 28); have R0 := (C6.block _ (Array.getElem?_eq_some_iff.1 Q0).1).trans Q0; have R8 := (C6.block _ (Array.getElem?_eq_some_iff.1 Q8).1).trans Q8; have R5 := heap_alloc_new w5 (.cells #[.int .i64 a0, .int .i64 a1, .int .i64 a2, .int .i64 a3, .int .i64 a4, .int .i64 a5, .int .i64 a6, .int .i64 a7, .int .i64 a8, .int .i64 a9, .int .i64 a10, .int .i64 a11, .int .i64 a12, .int .i64 a13, .int .i64 a14] 28); have B6 := bT B5 C6; have T1 := cell_of_row _ _ 1 _ _ _ R0; have U0 := cell_of_row _ _ 0 _ _ _ R5; have U1 := cell_of_row _ _ 1 _ _ _ R5; have U2 := cell_of_row _ _ 2 _ _ _ R5; have U3 := cell_of_row _ _ 3 _ _ _ R5; have U4 := cell_of_row _ _ 4 _ _ _ R5; have U5 := cell_of_row _ _ 5 _ _ _ R5; have U6 := cell_of_row _ _ 6 _ _ _ R5; have U7 := cell_of_row _ _ 7 _ _ _ R5; have U8 := cell_of_row _ _ 8 _ _ _ R5; have U9 := cell_of_row _ _ 9 _ _ _ R5; have U10 := cell_of_row _ _ 10 _ _ _ R5; have U11 := cell_of_row _ _ 11 _ _ _ R5; have U12 := cell_of_row _ _ 12 _ _ _ R5; have U13 := cell_of_row _ _ 13 _ _ _ R5; have U14 := cell_of_row _ _ 14 _ _ _ R5; clear hb5 C6 Q0 Q8)
  generalize hW5 : w5.alloc (.cells #[.int .i64 a0, .int .i64 a1, .int .i64 a2, .int .i64 a3, .int .i64 a4, .int .i64 a5, .int .i64 a6, .int .i64 a7, .int .i64 a8, .int .i64 a9, .int .i64 a10, .int .i64 a11, .int .i64 a12, .int .i64 a13, .int .i64 a14] 28) = W5 at *
  generalize hg5 : w5.heap.size = g5 at *
  have hS0 : W5.cell? ⟨w.heap.size, 1, none⟩ = some (.func (.func 69) #[] #[]) ∧ W5.cell? ⟨g5, 0, none⟩ = some (.int .i64 a0) ∧ W5.cell? ⟨g5, 1, none⟩ = some (.int .i64 a1) ∧ W5.cell? ⟨g5, 2, none⟩ = some (.int .i64 a2) ∧ W5.cell? ⟨g5, 3, none⟩ = some (.int .i64 a3) ∧ W5.cell? ⟨g5, 4, none⟩ = some (.int .i64 a4) ∧ W5.cell? ⟨g5, 5, none⟩ = some (.int .i64 a5) ∧ W5.cell? ⟨g5, 6, none⟩ = some (.int .i64 a6) ∧ W5.cell? ⟨g5, 7, none⟩ = some (.int .i64 a7) ∧ W5.cell? ⟨g5, 8, none⟩ = some (.int .i64 a8) ∧ W5.cell? ⟨g5, 9, none⟩ = some (.int .i64 a9) ∧ W5.cell? ⟨g5, 10, none⟩ = some (.int .i64 a10) ∧ W5.cell? ⟨g5, 11, none⟩ = some (.int .i64 a11) ∧ W5.cell? ⟨g5, 12, none⟩ = some (.int .i64 a12) ∧ W5.cell? ⟨g5, 13, none⟩ = some (.int .i64 a13) ∧ W5.cell? ⟨g5, 14, none⟩ = some (.int .i64 a14) ∧ Below W5.heap.size W5 W5 := ⟨T1, U0, U1, U2, U3, U4, U5, U6, U7, U8, U9, U10, U11, U12, U13, U14, bR _⟩
  clear U0 U1 U2 U3 U4 U5 U6 U7 U8 U9 U10 U11 U12 U13 U14 T1 T0
  go_region_held3 (fun w9 => w9.cell? ⟨w.heap.size, 1, none⟩ = some (.func (.func 69) #[] #[]) ∧ w9.cell? ⟨g5, 0, none⟩ = some (.int .i64 a0) ∧ w9.cell? ⟨g5, 1, none⟩ = some (.int .i64 a1) ∧ w9.cell? ⟨g5, 2, none⟩ = some (.int .i64 a2) ∧ w9.cell? ⟨g5, 3, none⟩ = some (.int .i64 a3) ∧ w9.cell? ⟨g5, 4, none⟩ = some (.int .i64 a4) ∧ w9.cell? ⟨g5, 5, none⟩ = some (.int .i64 a5) ∧ w9.cell? ⟨g5, 6, none⟩ = some (.int .i64 a6) ∧ w9.cell? ⟨g5, 7, none⟩ = some (.int .i64 a7) ∧ w9.cell? ⟨g5, 8, none⟩ = some (.int .i64 a8) ∧ w9.cell? ⟨g5, 9, none⟩ = some (.int .i64 a9) ∧ w9.cell? ⟨g5, 10, none⟩ = some (.int .i64 a10) ∧ w9.cell? ⟨g5, 11, none⟩ = some (.int .i64 a11) ∧ w9.cell? ⟨g5, 12, none⟩ = some (.int .i64 a12) ∧ w9.cell? ⟨g5, 13, none⟩ = some (.int .i64 a13) ∧ w9.cell? ⟨g5, 14, none⟩ = some (.int .i64 a14) ∧ Below W5.heap.size W5 w9) (first | (go_keep; done) | exact acB_drew (by assumption) | exact acB_drewN (by assumption) | exact acB_keep (by assumption) hb8 | exact acB_keep (by assumption) hb9)
    (first | (go_at_call 71; (with_reducible refine (hC _ ?_).mono ?_); (focus (exact bT B6 (acB_b (by assumption)))); rintro e w8 ⟨rfl, hb8⟩) | (go_at_call 69; (with_reducible refine (hE _ ?_).mono ?_); (focus (exact bT B6 (acB_b (by assumption)))); rintro e w9 ⟨v9, rfl, ho9, hb9⟩))
  rename_i hHeld
  have hB9 := acB_b hHeld
  have V8 := (hB9.block _ (Array.getElem?_eq_some_iff.1 R8).1).trans R8
  have V5 := (hB9.block _ (Array.getElem?_eq_some_iff.1 R5).1).trans R5
  have B9 := bT B6 hB9
  have hsz : w.heap.size + 1 < w8.heap.size := by
    have h1 := (Array.getElem?_eq_some_iff.1 R8).1
    have h2 := hb8.size
    simp only [World.size_drew] at h2
    omega
  clear hHeld hB9 hb8 hb9 R8 R5 R0 hS0 P0 P8 hD hC hE
  by_cases hy : y = 0
  · subst hy
    go_wp2_with (first | (refine wpList_load_row rfl 28 (.tmp 11) rfl g5 rfl 28 #[.int .i64 a0, .int .i64 a1, .int .i64 a2, .int .i64 a3, .int .i64 a4, .int .i64 a5, .int .i64 a6, .int .i64 a7, .int .i64 a8, .int .i64 a9, .int .i64 a10, .int .i64 a11, .int .i64 a12, .int .i64 a13, .int .i64 a14] (0, 0) _ V5 Tryz.underlying28 rfl ?_ ?_; (focus (exact infoRd21))) | (refine wpList_store_row rfl 28 _ _ rfl (w.heap.size + 1) #[.int .i64 a0, .int .i64 a1, .int .i64 a2, .int .i64 a3, .int .i64 a4, .int .i64 a5, .int .i64 a6, .int .i64 a7, .int .i64 a8, .int .i64 a9, .int .i64 a10, .int .i64 a11, .int .i64 a12, .int .i64 a13, .int .i64 a14] rfl rfl 28 #[.int .i64 0, .int .i64 0, .int .i64 0, .int .i64 0, .int .i64 0, .int .i64 0, .int .i64 0, .int .i64 0, .int .i64 0, .int .i64 0, .int .i64 0, .int .i64 0, .int .i64 0, .int .i64 0, .int .i64 0] V8 infoRd21 rfl (by simp [Value.oneCell']) ?_))
    exact bodyPost_ret (ac_rowtt rfl Tryz.underlying28 rfl rfl rfl rfl (setRow_heap _ _ _ _ _ _ V8) (by exact infoRd21)) rfl ⟨v9, by rw [if_pos rfl] <;> rfl, fun _ => own_base (ac_setRow ho9 _ hsz) (by omega), fun h => absurd rfl h, setRow_below B9 (Nat.le_succ _)⟩
  · have hyb : (y != 0) = true := by simpa using hy
    go_wp2_with (refine wpList_store_row rfl 28 _ _ rfl (w.heap.size + 1) #[.int .i64 0, .int .i64 0, .int .i64 0, .int .i64 0, .int .i64 0, .int .i64 0, .int .i64 0, .int .i64 0, .int .i64 0, .int .i64 0, .int .i64 0, .int .i64 0, .int .i64 0, .int .i64 0, .int .i64 0] rfl rfl 28 #[.int .i64 0, .int .i64 0, .int .i64 0, .int .i64 0, .int .i64 0, .int .i64 0, .int .i64 0, .int .i64 0, .int .i64 0, .int .i64 0, .int .i64 0, .int .i64 0, .int .i64 0, .int .i64 0, .int .i64 0] V8 infoRd21 rfl (by simp [Value.oneCell']) ?_)
    exact bodyPost_ret (ac_rowtt rfl Tryz.underlying28 rfl rfl rfl rfl (setRow_heap _ _ _ _ _ _ V8) (by exact infoRd21)) rfl ⟨_, by rw [if_neg hy] <;> rfl, fun h => absurd h hy, fun _ => rfl, setRow_below B9 (Nat.le_succ _)⟩
set_option maxHeartbeats 8000000 in
theorem goesS_ok (A B : Option Addr) (c n m cb p q : Nat) (a0 a1 a2 a3 a4 a5 a6 a7 a8 a9 a10 a11 a12 a13 a14 k l i : Int) (s : List Int) (y : Int) (w : World) (hD : ∀ W, Below w.heap.size w W → Calls Tryz.prog 31 #[.slice A n c, .slice B m cb] W fun e w' => e = .returned (.tuple #[.agg #[.int .i64 a0, .int .i64 a1, .int .i64 a2, .int .i64 a3, .int .i64 a4, .int .i64 a5, .int .i64 a6, .int .i64 a7, .int .i64 a8, .int .i64 a9, .int .i64 a10, .int .i64 a11, .int .i64 a12, .int .i64 a13, .int .i64 a14], .int .i64 0]) ∧ Below W.heap.size W w')
    (hC : ∀ W, Below w.heap.size w W → Calls Tryz.prog 74 #[.agg #[.int .i64 a0, .int .i64 a1, .int .i64 a2, .int .i64 a3, .int .i64 a4, .int .i64 a5, .int .i64 a6, .int .i64 a7, .int .i64 a8, .int .i64 a9, .int .i64 a10, .int .i64 a11, .int .i64 a12, .int .i64 a13, .int .i64 a14], .pointer (some ⟨p, 0, none⟩), .pointer (some ⟨q, 0, none⟩)] W fun e w' => e = .returned (.agg #[.int .i64 a0, .int .i64 a1, .int .i64 a2, .int .i64 a3, .int .i64 a4, .int .i64 a5, .int .i64 a6, .int .i64 a7, .int .i64 a8, .int .i64 a9, .int .i64 a10, .int .i64 k, .int .i64 l, .int .i64 i, .int .i64 0]) ∧ Below W.heap.size W w')
    (hE : ∀ W, Below w.heap.size w W → Calls Tryz.prog 13 #[.slice A n c, .agg #[.int .i64 a0, .int .i64 a1, .int .i64 a2, .int .i64 a3, .int .i64 a4, .int .i64 a5, .int .i64 a6, .int .i64 a7, .int .i64 a8, .int .i64 a9, .int .i64 a10, .int .i64 k, .int .i64 l, .int .i64 i, .int .i64 0]] W (ByteRetE (s, y) W)) :
    Calls Tryz.prog 70 #[.agg #[.func (.func 31) #[] #[], .func (.func 13) #[] #[]], .slice A n c, .slice B m cb, .func (.func 74) #[] #[.pointer (some ⟨p, 0, none⟩), .pointer (some ⟨q, 0, none⟩)]] w (AcRet #[.int .i64 a0, .int .i64 a1, .int .i64 a2, .int .i64 a3, .int .i64 a4, .int .i64 a5, .int .i64 a6, .int .i64 a7, .int .i64 a8, .int .i64 a9, .int .i64 a10, .int .i64 a11, .int .i64 a12, .int .i64 a13, .int .i64 a14] s y w) := by
  have P0 : ((w.alloc (.cells #[.func (.func 31) #[] #[], .func (.func 13) #[] #[]] 90)).alloc (.cells #[.int .i64 0, .int .i64 0, .int .i64 0, .int .i64 0, .int .i64 0, .int .i64 0, .int .i64 0, .int .i64 0, .int .i64 0, .int .i64 0, .int .i64 0, .int .i64 0, .int .i64 0, .int .i64 0, .int .i64 0] 28)).heap[w.heap.size]? = some (.cells #[.func (.func 31) #[] #[], .func (.func 13) #[] #[]] 90 (0, 0)) := heap_alloc2_old w _ _
  have P8 : ((w.alloc (.cells #[.func (.func 31) #[] #[], .func (.func 13) #[] #[]] 90)).alloc (.cells #[.int .i64 0, .int .i64 0, .int .i64 0, .int .i64 0, .int .i64 0, .int .i64 0, .int .i64 0, .int .i64 0, .int .i64 0, .int .i64 0, .int .i64 0, .int .i64 0, .int .i64 0, .int .i64 0, .int .i64 0] 28)).heap[w.heap.size + 1]? = some (.cells #[.int .i64 0, .int .i64 0, .int .i64 0, .int .i64 0, .int .i64 0, .int .i64 0, .int .i64 0, .int .i64 0, .int .i64 0, .int .i64 0, .int .i64 0, .int .i64 0, .int .i64 0, .int .i64 0, .int .i64 0] 28 (0, 0)) := by
    have h := heap_alloc_new (w.alloc (.cells #[.func (.func 31) #[] #[], .func (.func 13) #[] #[]] 90)) (.cells #[.int .i64 0, .int .i64 0, .int .i64 0, .int .i64 0, .int .i64 0, .int .i64 0, .int .i64 0, .int .i64 0, .int .i64 0, .int .i64 0, .int .i64 0, .int .i64 0, .int .i64 0, .int .i64 0, .int .i64 0] 28)
    rw [World.size_alloc] at h
    exact h
  have B2 := bA (bel1 w (.cells #[.func (.func 31) #[] #[], .func (.func 13) #[] #[]] 90)) (.cells #[.int .i64 0, .int .i64 0, .int .i64 0, .int .i64 0, .int .i64 0, .int .i64 0, .int .i64 0, .int .i64 0, .int .i64 0, .int .i64 0, .int .i64 0, .int .i64 0, .int .i64 0, .int .i64 0, .int .i64 0] 28)
  have T0 := cell_of_row _ _ 0 _ _ _ P0
  go_enter Tryz.func70, Tryz.ntmps70
  go_wp2_with (go_at_call 31; (with_reducible refine (hD _ B2).mono ?_); rintro e w5 ⟨rfl, hb5⟩; have Q0 := (hb5.block _ (Array.getElem?_eq_some_iff.1 P0).1).trans P0; have Q8 := (hb5.block _ (Array.getElem?_eq_some_iff.1 P8).1).trans P8; have B5 := bT B2 hb5; have C6 := bel1 w5 (.cells #[.int .i64 a0, .int .i64 a1, .int .i64 a2, .int .i64 a3, .int .i64 a4, .int .i64 a5, .int .i64 a6, .int .i64 a7, .int .i64 a8, .int .i64 a9, .int .i64 a10, .int .i64 a11, .int .i64 a12, .int .i64 a13, .int .i64 a14] 28); have R0 := (C6.block _ (Array.getElem?_eq_some_iff.1 Q0).1).trans Q0; have R8 := (C6.block _ (Array.getElem?_eq_some_iff.1 Q8).1).trans Q8; have R5 := heap_alloc_new w5 (.cells #[.int .i64 a0, .int .i64 a1, .int .i64 a2, .int .i64 a3, .int .i64 a4, .int .i64 a5, .int .i64 a6, .int .i64 a7, .int .i64 a8, .int .i64 a9, .int .i64 a10, .int .i64 a11, .int .i64 a12, .int .i64 a13, .int .i64 a14] 28); have B6 := bT B5 C6; have T1 := cell_of_row _ _ 1 _ _ _ R0; have U0 := cell_of_row _ _ 0 _ _ _ R5; have U1 := cell_of_row _ _ 1 _ _ _ R5; have U2 := cell_of_row _ _ 2 _ _ _ R5; have U3 := cell_of_row _ _ 3 _ _ _ R5; have U4 := cell_of_row _ _ 4 _ _ _ R5; have U5 := cell_of_row _ _ 5 _ _ _ R5; have U6 := cell_of_row _ _ 6 _ _ _ R5; have U7 := cell_of_row _ _ 7 _ _ _ R5; have U8 := cell_of_row _ _ 8 _ _ _ R5; have U9 := cell_of_row _ _ 9 _ _ _ R5; have U10 := cell_of_row _ _ 10 _ _ _ R5; have U11 := cell_of_row _ _ 11 _ _ _ R5; have U12 := cell_of_row _ _ 12 _ _ _ R5; have U13 := cell_of_row _ _ 13 _ _ _ R5; have U14 := cell_of_row _ _ 14 _ _ _ R5; clear hb5 C6 Q0 Q8)
  generalize hW5 : w5.alloc (.cells #[.int .i64 a0, .int .i64 a1, .int .i64 a2, .int .i64 a3, .int .i64 a4, .int .i64 a5, .int .i64 a6, .int .i64 a7, .int .i64 a8, .int .i64 a9, .int .i64 a10, .int .i64 a11, .int .i64 a12, .int .i64 a13, .int .i64 a14] 28) = W5 at *
  generalize hg5 : w5.heap.size = g5 at *
  have hS0 : W5.cell? ⟨w.heap.size, 1, none⟩ = some (.func (.func 13) #[] #[]) ∧ W5.cell? ⟨g5, 0, none⟩ = some (.int .i64 a0) ∧ W5.cell? ⟨g5, 1, none⟩ = some (.int .i64 a1) ∧ W5.cell? ⟨g5, 2, none⟩ = some (.int .i64 a2) ∧ W5.cell? ⟨g5, 3, none⟩ = some (.int .i64 a3) ∧ W5.cell? ⟨g5, 4, none⟩ = some (.int .i64 a4) ∧ W5.cell? ⟨g5, 5, none⟩ = some (.int .i64 a5) ∧ W5.cell? ⟨g5, 6, none⟩ = some (.int .i64 a6) ∧ W5.cell? ⟨g5, 7, none⟩ = some (.int .i64 a7) ∧ W5.cell? ⟨g5, 8, none⟩ = some (.int .i64 a8) ∧ W5.cell? ⟨g5, 9, none⟩ = some (.int .i64 a9) ∧ W5.cell? ⟨g5, 10, none⟩ = some (.int .i64 a10) ∧ W5.cell? ⟨g5, 11, none⟩ = some (.int .i64 a11) ∧ W5.cell? ⟨g5, 12, none⟩ = some (.int .i64 a12) ∧ W5.cell? ⟨g5, 13, none⟩ = some (.int .i64 a13) ∧ W5.cell? ⟨g5, 14, none⟩ = some (.int .i64 a14) ∧ Below W5.heap.size W5 W5 := ⟨T1, U0, U1, U2, U3, U4, U5, U6, U7, U8, U9, U10, U11, U12, U13, U14, bR _⟩
  clear U0 U1 U2 U3 U4 U5 U6 U7 U8 U9 U10 U11 U12 U13 U14 T1 T0
  go_region_held3 (fun w9 => w9.cell? ⟨w.heap.size, 1, none⟩ = some (.func (.func 13) #[] #[]) ∧ w9.cell? ⟨g5, 0, none⟩ = some (.int .i64 a0) ∧ w9.cell? ⟨g5, 1, none⟩ = some (.int .i64 a1) ∧ w9.cell? ⟨g5, 2, none⟩ = some (.int .i64 a2) ∧ w9.cell? ⟨g5, 3, none⟩ = some (.int .i64 a3) ∧ w9.cell? ⟨g5, 4, none⟩ = some (.int .i64 a4) ∧ w9.cell? ⟨g5, 5, none⟩ = some (.int .i64 a5) ∧ w9.cell? ⟨g5, 6, none⟩ = some (.int .i64 a6) ∧ w9.cell? ⟨g5, 7, none⟩ = some (.int .i64 a7) ∧ w9.cell? ⟨g5, 8, none⟩ = some (.int .i64 a8) ∧ w9.cell? ⟨g5, 9, none⟩ = some (.int .i64 a9) ∧ w9.cell? ⟨g5, 10, none⟩ = some (.int .i64 a10) ∧ w9.cell? ⟨g5, 11, none⟩ = some (.int .i64 a11) ∧ w9.cell? ⟨g5, 12, none⟩ = some (.int .i64 a12) ∧ w9.cell? ⟨g5, 13, none⟩ = some (.int .i64 a13) ∧ w9.cell? ⟨g5, 14, none⟩ = some (.int .i64 a14) ∧ Below W5.heap.size W5 w9) (first | (go_keep; done) | exact acS_drew (by assumption) | exact acS_drewN (by assumption) | exact acS_keep (by assumption) hb8 | exact acS_keep (by assumption) hb9)
    (first | (go_at_call 74; (with_reducible refine (hC _ ?_).mono ?_); (focus (exact bT B6 (acS_b (by assumption)))); rintro e w8 ⟨rfl, hb8⟩) | (go_at_call 13; (with_reducible refine (hE _ ?_).mono ?_); (focus (exact bT B6 (acS_b (by assumption)))); rintro e w9 ⟨v9, rfl, ho9, hb9⟩))
  rename_i hHeld
  have hB9 := acS_b hHeld
  have V8 := (hB9.block _ (Array.getElem?_eq_some_iff.1 R8).1).trans R8
  have V5 := (hB9.block _ (Array.getElem?_eq_some_iff.1 R5).1).trans R5
  have B9 := bT B6 hB9
  have hsz : w.heap.size + 1 < w8.heap.size := by
    have h1 := (Array.getElem?_eq_some_iff.1 R8).1
    have h2 := hb8.size
    simp only [World.size_drew] at h2
    omega
  clear hHeld hB9 hb8 hb9 R8 R5 R0 hS0 P0 P8 hD hC hE
  by_cases hy : y = 0
  · subst hy
    go_wp2_with (first | (refine wpList_load_row rfl 28 (.tmp 11) rfl g5 rfl 28 #[.int .i64 a0, .int .i64 a1, .int .i64 a2, .int .i64 a3, .int .i64 a4, .int .i64 a5, .int .i64 a6, .int .i64 a7, .int .i64 a8, .int .i64 a9, .int .i64 a10, .int .i64 a11, .int .i64 a12, .int .i64 a13, .int .i64 a14] (0, 0) _ V5 Tryz.underlying28 rfl ?_ ?_; (focus (exact infoRd21))) | (refine wpList_store_row rfl 28 _ _ rfl (w.heap.size + 1) #[.int .i64 a0, .int .i64 a1, .int .i64 a2, .int .i64 a3, .int .i64 a4, .int .i64 a5, .int .i64 a6, .int .i64 a7, .int .i64 a8, .int .i64 a9, .int .i64 a10, .int .i64 a11, .int .i64 a12, .int .i64 a13, .int .i64 a14] rfl rfl 28 #[.int .i64 0, .int .i64 0, .int .i64 0, .int .i64 0, .int .i64 0, .int .i64 0, .int .i64 0, .int .i64 0, .int .i64 0, .int .i64 0, .int .i64 0, .int .i64 0, .int .i64 0, .int .i64 0, .int .i64 0] V8 infoRd21 rfl (by simp [Value.oneCell']) ?_))
    exact bodyPost_ret (ac_rowtt rfl Tryz.underlying28 rfl rfl rfl rfl (setRow_heap _ _ _ _ _ _ V8) (by exact infoRd21)) rfl ⟨v9, by rw [if_pos rfl] <;> rfl, fun _ => own_base (ac_setRow ho9 _ hsz) (by omega), fun h => absurd rfl h, setRow_below B9 (Nat.le_succ _)⟩
  · have hyb : (y != 0) = true := by simpa using hy
    go_wp2_with (refine wpList_store_row rfl 28 _ _ rfl (w.heap.size + 1) #[.int .i64 0, .int .i64 0, .int .i64 0, .int .i64 0, .int .i64 0, .int .i64 0, .int .i64 0, .int .i64 0, .int .i64 0, .int .i64 0, .int .i64 0, .int .i64 0, .int .i64 0, .int .i64 0, .int .i64 0] rfl rfl 28 #[.int .i64 0, .int .i64 0, .int .i64 0, .int .i64 0, .int .i64 0, .int .i64 0, .int .i64 0, .int .i64 0, .int .i64 0, .int .i64 0, .int .i64 0, .int .i64 0, .int .i64 0, .int .i64 0, .int .i64 0] V8 infoRd21 rfl (by simp [Value.oneCell']) ?_)
    exact bodyPost_ret (ac_rowtt rfl Tryz.underlying28 rfl rfl rfl rfl (setRow_heap _ _ _ _ _ _ V8) (by exact infoRd21)) rfl ⟨_, by rw [if_neg hy] <;> rfl, fun h => absurd h hy, fun _ => rfl, setRow_below B9 (Nat.le_succ _)⟩

end Go.Proofs.YtnbghgenaolfgaaGreat

namespace Go.Proofs.YtnbghgenaolfgaaGreat
open Go.RowKit
set_option linter.unusedVariables false
set_option maxRecDepth 100000
set_option linter.unusedSimpArgs false

def toB (ks : List Ky) (s : List Int) (ver key : Int) : List Int × Int × Int × Int :=
  if (decS ks s).2 ≠ 0 then ([], 0, 0, (decS ks s).2)
  else if (encE ks ((decS ks s).1.take 11 ++ [key, 0, 0, ver])).2 ≠ 0 then ([], 0, 0, (encE ks ((decS ks s).1.take 11 ++ [key, 0, 0, ver])).2)
  else ((encE ks ((decS ks s).1.take 11 ++ [key, 0, 0, ver])).1, (decS ks s).1.getD 12 0, (decS ks s).1.getD 13 0, 0)
def toS (ks : List Ky) (s : List Int) (l i key : Int) : List Int × Int :=
  if (decE ks s).2 ≠ 0 then ([], (decE ks s).2)
  else if (encS ks ((decE ks s).1.take 11 ++ [key, l, i, 0])).2 ≠ 0 then ([], (encS ks ((decE ks s).1.take 11 ++ [key, l, i, 0])).2)
  else ((encS ks ((decE ks s).1.take 11 ++ [key, l, i, 0])).1, 0)
theorem ac_cells2 {W : World} {g : Nat} {x y : Value} {T : TypeId} (h : W.heap[g]? = some (.cells #[x, y] T (0, 0))) : W.cell? ⟨g, 0, none⟩ = some x ∧ W.cell? ⟨g, 1, none⟩ = some y ∧ W.frozen? ⟨g, 0, none⟩ = false ∧ W.frozen? ⟨g, 1, none⟩ = false :=
  ⟨cell_of_row _ _ 0 _ _ _ h, cell_of_row _ _ 1 _ _ _ h, by simp [World.frozen?, h], by simp [World.frozen?, h]⟩
theorem ac_cell1 {W : World} {g : Nat} {x : Value} {T : TypeId} (h : W.heap[g]? = some (.cells #[x] T (0, 0))) : W.cell? ⟨g, 0, none⟩ = some x := cell_of_row _ _ 0 _ _ _ h
theorem ac_set2 {W : World} {g : Nat} {x y : Value} {T : TypeId} (u v : Value) (h : W.heap[g]? = some (.cells #[x, y] T (0, 0))) : (((W.setCell ⟨g, 0, none⟩ u).setCell ⟨g, 1, none⟩ v).drew).heap[g]? = some (.cells #[u, v] T (0, 0)) :=
  row_set (row_set h 0 u) 1 v
theorem infoJn : (Tryz.prog.info? 26).map (·.size) = some 2 := by kernel_rfl
def ToBRet (r : List Int × Int × Int × Int) (w : World) (e : Ending) (w' : World) : Prop :=
  ∃ v, e = .returned (.tuple #[v, .agg #[.int .i64 r.2.1, .int .i64 r.2.2.1], .int .i64 r.2.2.2]) ∧ w'.ownsRow w.heap.size 5 1 v r.1.length (r.1.map (.int .u8)) ∧ Below w.heap.size w w'
theorem new3' (w : World) (A B C : Obj) : ∃ w0, (((w.alloc A).alloc B).alloc C) = w0 ∧ w0.heap[w.heap.size]? = some A ∧ w0.heap[w.heap.size + 1]? = some B ∧ w0.heap[w.heap.size + 1 + 1]? = some C ∧ w0.heap.size = w.heap.size + 1 + 1 + 1 ∧ Below w.heap.size w w0 := new3 w A B C

set_option maxHeartbeats 4000000 in
theorem toStripe_no (A B : Option Addr) (c n m cb : Nat) (a0 a1 a2 a3 a4 a5 a6 a7 a8 a9 a10 a11 a12 a13 a14 z l i k : Int) (w : World) (hz : (z != 0) = true) (hD : ∀ W, Below w.heap.size w W → Calls Tryz.prog 31 #[.slice A n c, .slice B m cb] W fun e w' => e = .returned (.tuple #[.agg #[.int .i64 a0, .int .i64 a1, .int .i64 a2, .int .i64 a3, .int .i64 a4, .int .i64 a5, .int .i64 a6, .int .i64 a7, .int .i64 a8, .int .i64 a9, .int .i64 a10, .int .i64 a11, .int .i64 a12, .int .i64 a13, .int .i64 a14], .int .i64 z]) ∧ Below W.heap.size W w') :
    Calls Tryz.prog 28 #[.slice A n c, .slice B m cb, .agg #[.int .i64 l, .int .i64 i], .int .i64 k] w (ByteRetE ([], z) w) := by
  have hmf : ∀ (fn : Fn) (first cap : Array Value) (w : World), (Instr.makeFunc fn first cap).run Tryz.prog w = .ok (.func fn first cap) w := fun _ _ _ _ => rfl
  have B2 := bA (bel1 w (.cells #[.int .i64 l, .int .i64 i] 26)) (.cells #[.int .i64 k] 3)
  go_enter Tryz.func28, Tryz.ntmps28
  go_wp2_with (go_at_call 70; (with_reducible refine (goesS_bad A B c n m cb (w.heap.size + 1) w.heap.size a0 a1 a2 a3 a4 a5 a6 a7 a8 a9 a10 a11 a12 a13 a14 z _ hz (fun W hW => hD W (bT B2 hW))).mono ?_); rintro e w5 ⟨rfl, hb5⟩)
  go_ret2
  exact ⟨_, rfl, World.ownsRow_nil _ _ _ _, bA (bT B2 hb5) _⟩
set_option maxHeartbeats 4000000 in
theorem toStripe_yes (A B : Option Addr) (c n m cb : Nat) (a0 a1 a2 a3 a4 a5 a6 a7 a8 a9 a10 a11 a12 a13 a14 l i k : Int) (q : List Int × Int) (w : World) (hD : ∀ W, Below w.heap.size w W → Calls Tryz.prog 31 #[.slice A n c, .slice B m cb] W fun e w' => e = .returned (.tuple #[.agg #[.int .i64 a0, .int .i64 a1, .int .i64 a2, .int .i64 a3, .int .i64 a4, .int .i64 a5, .int .i64 a6, .int .i64 a7, .int .i64 a8, .int .i64 a9, .int .i64 a10, .int .i64 a11, .int .i64 a12, .int .i64 a13, .int .i64 a14], .int .i64 0]) ∧ Below W.heap.size W w')
    (hE : ∀ W, Below w.heap.size w W → Calls Tryz.prog 13 #[.slice A n c, .agg #[.int .i64 a0, .int .i64 a1, .int .i64 a2, .int .i64 a3, .int .i64 a4, .int .i64 a5, .int .i64 a6, .int .i64 a7, .int .i64 a8, .int .i64 a9, .int .i64 a10, .int .i64 k, .int .i64 l, .int .i64 i, .int .i64 0]] W (ByteRetE q W)) :
    Calls Tryz.prog 28 #[.slice A n c, .slice B m cb, .agg #[.int .i64 l, .int .i64 i], .int .i64 k] w (ByteRetE (if q.2 ≠ 0 then ([], q.2) else (q.1, 0)) w) := by
  have hmf : ∀ (fn : Fn) (first cap : Array Value) (w : World), (Instr.makeFunc fn first cap).run Tryz.prog w = .ok (.func fn first cap) w := fun _ _ _ _ => rfl
  have B2 := bA (bel1 w (.cells #[.int .i64 l, .int .i64 i] 26)) (.cells #[.int .i64 k] 3)
  have P0 := heap_alloc2_old w (.cells #[.int .i64 l, .int .i64 i] 26) (.cells #[.int .i64 k] 3)
  have P1 := ac_new2 w (.cells #[.int .i64 l, .int .i64 i] 26) (.cells #[.int .i64 k] 3)
  obtain ⟨C0, C1, _, _⟩ := ac_cells2 P0
  have K0 := ac_cell1 P1
  obtain ⟨s, y⟩ := q
  by_cases hy : y = 0
  · subst hy
    rw [if_neg (by simp)]
    go_enter Tryz.func28, Tryz.ntmps28
    go_wp2_with (go_at_call 70; (with_reducible refine (goesS_ok A B c n m cb (w.heap.size + 1) w.heap.size a0 a1 a2 a3 a4 a5 a6 a7 a8 a9 a10 a11 a12 a13 a14 k l i s 0 _ (fun W hW => hD W (bT B2 hW)) (fun W hW => anewS_any a0 a1 a2 a3 a4 a5 a6 a7 a8 a9 a10 a11 a12 a13 a14 k l i _ _ W (keep_cell hW K0) (keep_cell hW C0) (keep_cell hW C1)) (fun W hW => hE W (bT B2 hW))).mono ?_); rintro e w5 ⟨v, he, ho, hn, hb5⟩; rw [if_pos rfl] at he; subst he; have ho5 := ho rfl)
    go_ret2
    exact ⟨v, rfl, own_below (own_base ho5 B2.size) (bel1 _ _), bA (bT B2 hb5) _⟩
  · rw [if_pos (by exact hy)]
    go_enter Tryz.func28, Tryz.ntmps28
    go_wp2_with (go_at_call 70; (with_reducible refine (goesS_ok A B c n m cb (w.heap.size + 1) w.heap.size a0 a1 a2 a3 a4 a5 a6 a7 a8 a9 a10 a11 a12 a13 a14 k l i s y _ (fun W hW => hD W (bT B2 hW)) (fun W hW => anewS_any a0 a1 a2 a3 a4 a5 a6 a7 a8 a9 a10 a11 a12 a13 a14 k l i _ _ W (keep_cell hW K0) (keep_cell hW C0) (keep_cell hW C1)) (fun W hW => hE W (bT B2 hW))).mono ?_); rintro e w5 ⟨v, he, ho, hn, hb5⟩; rw [if_neg hy] at he; subst he; obtain rfl := hn hy)
    go_ret2
    exact ⟨_, rfl, World.ownsRow_nil _ _ _ _, bA (bT B2 hb5) _⟩
set_option maxHeartbeats 4000000 in
theorem toBarcode_no (A B : Option Addr) (c n m cb : Nat) (a0 a1 a2 a3 a4 a5 a6 a7 a8 a9 a10 a11 a12 a13 a14 z v k : Int) (w : World) (hz : (z != 0) = true) (hD : ∀ W, Below w.heap.size w W → Calls Tryz.prog 17 #[.slice A n c, .slice B m cb] W fun e w' => e = .returned (.tuple #[.agg #[.int .i64 a0, .int .i64 a1, .int .i64 a2, .int .i64 a3, .int .i64 a4, .int .i64 a5, .int .i64 a6, .int .i64 a7, .int .i64 a8, .int .i64 a9, .int .i64 a10, .int .i64 a11, .int .i64 a12, .int .i64 a13, .int .i64 a14], .int .i64 z]) ∧ Below W.heap.size W w') :
    Calls Tryz.prog 25 #[.slice A n c, .slice B m cb, .int .i64 v, .int .i64 k] w (ToBRet ([], 0, 0, z) w) := by
  have hmf : ∀ (fn : Fn) (first cap : Array Value) (w : World), (Instr.makeFunc fn first cap).run Tryz.prog w = .ok (.func fn first cap) w := fun _ _ _ _ => rfl
  have B2 := bA (bA (bel1 w (.cells #[.int .i64 v] 3)) (.cells #[.int .i64 k] 3)) (.cells #[.int .i64 0, .int .i64 0] 26)
  have P9 := heap_alloc_new ((w.alloc (.cells #[.int .i64 v] 3)).alloc (.cells #[.int .i64 k] 3)) (.cells #[.int .i64 0, .int .i64 0] 26)
  simp only [World.size_alloc] at P9
  go_enter Tryz.func25, Tryz.ntmps25
  go_wp2_with (go_at_call 70; (with_reducible refine (goesB_bad A B c n m cb (w.heap.size + 1) w.heap.size a0 a1 a2 a3 a4 a5 a6 a7 a8 a9 a10 a11 a12 a13 a14 z _ hz (fun W hW => hD W (bT B2 hW))).mono ?_); rintro e w5 ⟨rfl, hb5⟩; have C6 := bel1 w5 (.cells #[.int .i64 0, .int .i64 0, .int .i64 0, .int .i64 0, .int .i64 0, .int .i64 0, .int .i64 0, .int .i64 0, .int .i64 0, .int .i64 0, .int .i64 0, .int .i64 0, .int .i64 0, .int .i64 0, .int .i64 0] 28); have P5 := (hb5.block _ (Array.getElem?_eq_some_iff.1 P9).1).trans P9; have P6 := (C6.block _ (Array.getElem?_eq_some_iff.1 P5).1).trans P5; obtain ⟨j0, j1, j2, j3⟩ := ac_cells2 P6; have B5 := bT B2 hb5; clear hb5 C6)
  · go_region
    go_wp2
    exact bodyPost_ret (ac_trt rfl Tryz.underlying26 rfl rfl rfl rfl (ac_set2 (.int .i64 0) (.int .i64 0) P6) (by exact infoJn)) rfl ⟨_, rfl, World.ownsRow_nil _ _ _ _, bD (bS (bS (bA B5 _) (by omega)) (by omega))⟩
set_option maxHeartbeats 4000000 in
theorem toBarcode_yes (A B : Option Addr) (c n m cb : Nat) (a0 a1 a2 a3 a4 a5 a6 a7 a8 a9 a10 a11 a12 a13 a14 v k : Int) (q : List Int × Int) (w : World) (hD : ∀ W, Below w.heap.size w W → Calls Tryz.prog 17 #[.slice A n c, .slice B m cb] W fun e w' => e = .returned (.tuple #[.agg #[.int .i64 a0, .int .i64 a1, .int .i64 a2, .int .i64 a3, .int .i64 a4, .int .i64 a5, .int .i64 a6, .int .i64 a7, .int .i64 a8, .int .i64 a9, .int .i64 a10, .int .i64 a11, .int .i64 a12, .int .i64 a13, .int .i64 a14], .int .i64 0]) ∧ Below W.heap.size W w')
    (hE : ∀ W, Below w.heap.size w W → Calls Tryz.prog 69 #[.slice A n c, .agg #[.int .i64 a0, .int .i64 a1, .int .i64 a2, .int .i64 a3, .int .i64 a4, .int .i64 a5, .int .i64 a6, .int .i64 a7, .int .i64 a8, .int .i64 a9, .int .i64 a10, .int .i64 k, .int .i64 0, .int .i64 0, .int .i64 v]] W (ByteRetE q W)) :
    Calls Tryz.prog 25 #[.slice A n c, .slice B m cb, .int .i64 v, .int .i64 k] w (ToBRet (if q.2 ≠ 0 then ([], 0, 0, q.2) else (q.1, a12, a13, 0)) w) := by
  have hmf : ∀ (fn : Fn) (first cap : Array Value) (w : World), (Instr.makeFunc fn first cap).run Tryz.prog w = .ok (.func fn first cap) w := fun _ _ _ _ => rfl
  have B2 := bA (bA (bel1 w (.cells #[.int .i64 v] 3)) (.cells #[.int .i64 k] 3)) (.cells #[.int .i64 0, .int .i64 0] 26)
  have P9 := heap_alloc_new ((w.alloc (.cells #[.int .i64 v] 3)).alloc (.cells #[.int .i64 k] 3)) (.cells #[.int .i64 0, .int .i64 0] 26)
  simp only [World.size_alloc] at P9
  have C0 := ac_cell1 (((bel1 _ (.cells #[.int .i64 0, .int .i64 0] 26)).block _ (by simp; omega)).trans (heap_alloc2_old w (.cells #[.int .i64 v] 3) (.cells #[.int .i64 k] 3)))
  have K0 := ac_cell1 (((bel1 _ (.cells #[.int .i64 0, .int .i64 0] 26)).block _ (by simp)).trans (ac_new2 w (.cells #[.int .i64 v] 3) (.cells #[.int .i64 k] 3)))
  obtain ⟨s, y⟩ := q
  by_cases hy : y = 0
  · subst hy
    rw [if_neg (by simp)]
    go_enter Tryz.func25, Tryz.ntmps25
    go_wp2_with (go_at_call 70; (with_reducible refine (goesB_ok A B c n m cb (w.heap.size + 1) w.heap.size a0 a1 a2 a3 a4 a5 a6 a7 a8 a9 a10 a11 a12 a13 a14 k v s 0 _ (fun W hW => hD W (bT B2 hW)) (fun W hW => anewB_any a0 a1 a2 a3 a4 a5 a6 a7 a8 a9 a10 a11 a12 a13 a14 k v _ _ W (keep_cell hW K0) (keep_cell hW C0)) (fun W hW => hE W (bT B2 hW))).mono ?_); rintro e w5 ⟨v5, he, ho, hn, hb5⟩; rw [if_pos rfl] at he; subst he; have ho5 := ho rfl; have C6 := bel1 w5 (.cells #[.int .i64 a0, .int .i64 a1, .int .i64 a2, .int .i64 a3, .int .i64 a4, .int .i64 a5, .int .i64 a6, .int .i64 a7, .int .i64 a8, .int .i64 a9, .int .i64 a10, .int .i64 a11, .int .i64 a12, .int .i64 a13, .int .i64 a14] 28); have P5 := (hb5.block _ (Array.getElem?_eq_some_iff.1 P9).1).trans P9; have P6 := (C6.block _ (Array.getElem?_eq_some_iff.1 P5).1).trans P5; obtain ⟨j0, j1, j2, j3⟩ := ac_cells2 P6; have B5 := bT B2 hb5; clear hb5 C6)
    go_region
    go_wp2
    exact bodyPost_ret (ac_trt rfl Tryz.underlying26 rfl rfl rfl rfl (ac_set2 (.int .i64 a12) (.int .i64 a13) P6) (by exact infoJn)) rfl ⟨v5, rfl, own_base (own_setCell (own_setCell (own_below ho5 (bel1 _ _)) (by simp only [World.size_alloc]; omega)) (by simp only [World.size_alloc]; omega)) B2.size, bD (bS (bS (bA B5 _) (by omega)) (by omega))⟩
  · rw [if_pos (by exact hy)]
    go_enter Tryz.func25, Tryz.ntmps25
    go_wp2_with (go_at_call 70; (with_reducible refine (goesB_ok A B c n m cb (w.heap.size + 1) w.heap.size a0 a1 a2 a3 a4 a5 a6 a7 a8 a9 a10 a11 a12 a13 a14 k v s y _ (fun W hW => hD W (bT B2 hW)) (fun W hW => anewB_any a0 a1 a2 a3 a4 a5 a6 a7 a8 a9 a10 a11 a12 a13 a14 k v _ _ W (keep_cell hW K0) (keep_cell hW C0)) (fun W hW => hE W (bT B2 hW))).mono ?_); rintro e w5 ⟨v5, he, ho, hn, hb5⟩; rw [if_neg hy] at he; subst he; obtain rfl := hn hy; have C6 := bel1 w5 (.cells #[.int .i64 0, .int .i64 0, .int .i64 0, .int .i64 0, .int .i64 0, .int .i64 0, .int .i64 0, .int .i64 0, .int .i64 0, .int .i64 0, .int .i64 0, .int .i64 0, .int .i64 0, .int .i64 0, .int .i64 0] 28); have P5 := (hb5.block _ (Array.getElem?_eq_some_iff.1 P9).1).trans P9; have P6 := (C6.block _ (Array.getElem?_eq_some_iff.1 P5).1).trans P5; obtain ⟨j0, j1, j2, j3⟩ := ac_cells2 P6; have B5 := bT B2 hb5; clear hb5 C6)
    go_region
    go_wp2
    exact bodyPost_ret (ac_trt rfl Tryz.underlying26 rfl rfl rfl rfl (ac_set2 (.int .i64 0) (.int .i64 0) P6) (by exact infoJn)) rfl ⟨_, rfl, World.ownsRow_nil _ _ _ _, bD (bS (bS (bA B5 _) (by omega)) (by omega))⟩
theorem toB_bad {ks : List Ky} {s : List Int} {v k : Int} (h : (decS ks s).2 ≠ 0) : toB ks s v k = ([], 0, 0, (decS ks s).2) := by unfold toB; rw [if_pos h]
theorem toS_bad {ks : List Ky} {s : List Int} {l i k : Int} (h : (decE ks s).2 ≠ 0) : toS ks s l i k = ([], (decE ks s).2) := by unfold toS; rw [if_pos h]
theorem toB_ok {ks : List Ky} {s : List Int} {a0 a1 a2 a3 a4 a5 a6 a7 a8 a9 a10 a11 a12 a13 a14 v k : Int} (h : decS ks s = ([a0, a1, a2, a3, a4, a5, a6, a7, a8, a9, a10, a11, a12, a13, a14], 0)) :
    toB ks s v k = (if (encE ks [a0, a1, a2, a3, a4, a5, a6, a7, a8, a9, a10, k, 0, 0, v]).2 ≠ 0 then ([], 0, 0, (encE ks [a0, a1, a2, a3, a4, a5, a6, a7, a8, a9, a10, k, 0, 0, v]).2) else ((encE ks [a0, a1, a2, a3, a4, a5, a6, a7, a8, a9, a10, k, 0, 0, v]).1, a12, a13, 0)) := by
  unfold toB; rw [h]; rfl
theorem toS_ok {ks : List Ky} {s : List Int} {a0 a1 a2 a3 a4 a5 a6 a7 a8 a9 a10 a11 a12 a13 a14 l i k : Int} (h : decE ks s = ([a0, a1, a2, a3, a4, a5, a6, a7, a8, a9, a10, a11, a12, a13, a14], 0)) :
    toS ks s l i k = (if (encS ks [a0, a1, a2, a3, a4, a5, a6, a7, a8, a9, a10, k, l, i, 0]).2 ≠ 0 then ([], (encS ks [a0, a1, a2, a3, a4, a5, a6, a7, a8, a9, a10, k, l, i, 0]).2) else ((encS ks [a0, a1, a2, a3, a4, a5, a6, a7, a8, a9, a10, k, l, i, 0]).1, 0)) := by
  unfold toS; rw [h]; rfl
theorem len15x {l : List Int} (h : l.length = 15) : ∃ a0 a1 a2 a3 a4 a5 a6 a7 a8 a9 a10 a11 a12 a13 a14, l = [a0, a1, a2, a3, a4, a5, a6, a7, a8, a9, a10, a11, a12, a13, a14] := by
  match l, h with
  | [a0, a1, a2, a3, a4, a5, a6, a7, a8, a9, a10, a11, a12, a13, a14], _ => exact ⟨_, _, _, _, _, _, _, _, _, _, _, _, _, _, _, rfl⟩
theorem decT_15x (ks : List Ky) (x t : List Int) : (decT ks x t).1.length = 15 := by
  have hg : (layG x).1.length = 15 := by
    obtain ⟨c0, c1, c2, c3, c4, c5, c6, c7, c8, c9, c10, c11, c12, c13, c14, hc⟩ := layG_15 x
    rw [hc]; rfl
  unfold decT
  split
  · rfl
  · split
    · rfl
    · split
      · exact hg
      · rfl
theorem decS_15x (ks : List Ky) (s : List Int) : (decS ks s).1.length = 15 := by
  unfold decS
  split
  · rfl
  · split
    · rfl
    · split
      · rfl
      · exact decT_15x _ _ _
end Go.Proofs.YtnbghgenaolfgaaGreat

namespace Go.Proofs.YtnbghgenaolfgaaGreat
open Go.RowKit
set_option linter.unusedVariables false
set_option maxRecDepth 100000
set_option linter.unusedSimpArgs false

theorem decE_lenx (ks : List Ky) (s : List Int) : (decE ks s).1.length = 15 := by
  unfold decE
  split
  · rfl
  split
  · rfl
  unfold decF
  split
  · rfl
  split
  · rfl
  split
  · exact fgE_len _
  · rfl
theorem enc_smallx (ks : List Ky) (l : List Int) (hl : l.length = 15) : (encE ks l).1.length ≤ 200000 ∧ ∀ x ∈ (encE ks l).1, 0 ≤ x ∧ x < 256 := by
  by_cases h : (encE ks l).2 = 0
  · obtain ⟨q, k, _, _, _, h4, _, _, h7, _⟩ := enc_parts (ks := ks) (l := l) (s := (encE ks l).1) hl (Prod.ext rfl h)
    obtain ⟨t3, t4⟩ := tlvB_facts _ 0 h4 (by omega)
    have := putF_len q (fun f hf => (t4 f hf).2.2)
    rw [h7]
    exact ⟨by rw [fortyPut_len, List.length_append, tagN_len]; omega, fortyPut_byte _⟩
  · have : (encE ks l).1 = [] := by
      unfold encE at h ⊢
      split
      · rfl
      · rename_i g
        rw [if_neg g] at h
        split
        · rfl
        · rename_i e
          rw [e] at h
          simp only at h ⊢
          split
          · rfl
          · rename_i g2
            rw [if_neg g2] at h
            exact absurd rfl h
    rw [this]
    simp
theorem decE_small {ks : List Ky} {s : List Int} {a0 a1 a2 a3 a4 a5 a6 a7 a8 a9 a10 a11 a12 a13 a14 : Int} (h : decE ks s = ([a0, a1, a2, a3, a4, a5, a6, a7, a8, a9, a10, a11, a12, a13, a14], 0)) : tkB a0 a1 a2 a3 a4 a5 a6 a7 a8 a9 a10 = true ∧ (0 ≤ a11 ∧ a11 < 100) ∧ a12 = 0 ∧ a13 = 0 ∧ (1 ≤ a14 ∧ a14 ≤ 3) ∧ (∀ x ∈ [a0, a1, a2, a3, a4, a5, a6, a7, a8, a9, a10], x ≤ 1099511627776) := by
  obtain ⟨h1, h2, _⟩ := dec_enc h
  obtain ⟨q, k, _, _, h4, _⟩ := enc_parts h1 h2
  unfold readB at h4
  simp only [Bool.and_eq_true, decide_eq_true_eq] at h4
  obtain ⟨⟨⟨g1, g2, g3⟩, g4, g5⟩, g6, g7⟩ := h4
  have hf := tkL_facts g1
  simp only [List.getD_cons_zero, List.getD_cons_succ] at hf g2 g3 g4 g5 g6 g7
  refine ⟨g1, ⟨g2, g3⟩, g4, g5, ⟨g6, g7⟩, fun x hx => ?_⟩
  simp only [List.mem_cons, List.not_mem_nil, or_false] at hx
  omega
theorem mem15 {a0 a1 a2 a3 a4 a5 a6 a7 a8 a9 a10 k l i : Int} (h : ∀ x ∈ [a0, a1, a2, a3, a4, a5, a6, a7, a8, a9, a10], x ≤ 1099511627776) (hk : k ≤ 9223372036854775807) (hl : l ≤ 9223372036854775807) (hi : i ≤ 9223372036854775807) : ∀ x ∈ [a0, a1, a2, a3, a4, a5, a6, a7, a8, a9, a10, k, l, i, 0], x ≤ 9223372036854775807 := by
  intro x hx
  rw [show [a0, a1, a2, a3, a4, a5, a6, a7, a8, a9, a10, k, l, i, 0] = [a0, a1, a2, a3, a4, a5, a6, a7, a8, a9, a10] ++ [k, l, i, 0] from rfl] at hx
  rcases List.mem_append.1 hx with hx | hx
  · have := h x hx; omega
  · simp only [List.mem_cons, List.not_mem_nil, or_false] at hx
    omega
set_option maxHeartbeats 2000000 in
theorem toStripe_any (A : Option Addr) (c : Nat) (ks : List Ky) (B : Option Addr) (cb : Nat) (s : List Int) (l i k : Int) (w : World) (hr : RdK w A ks) (hl : ks.length ≤ 9223372036854775807) (hs : RdI w .u8 B s) (hsc : s.length ≤ cb) (hs9 : cb ≤ 9223372036854775807) (hsb : ∀ x ∈ s, 0 ≤ x ∧ x < 256) (hsl : s.length ≤ 140737488351232) (hk : k ≤ 9223372036854775807) (hl9 : l ≤ 9223372036854775807) (hi9 : i ≤ 9223372036854775807) :
    Calls Tryz.prog 28 #[.slice A ks.length c, .slice B s.length cb, .agg #[.int .i64 l, .int .i64 i], .int .i64 k] w (ByteRetE (toS ks s l i k) w) := by
  obtain ⟨a0, a1, a2, a3, a4, a5, a6, a7, a8, a9, a10, a11, a12, a13, a14, h15⟩ := len15x (decE_lenx ks s)
  have hD : ∀ W, Below w.heap.size w W → Calls Tryz.prog 31 #[.slice A ks.length c, .slice B s.length cb] W fun e w' => e = .returned (.tuple #[.agg #[.int .i64 a0, .int .i64 a1, .int .i64 a2, .int .i64 a3, .int .i64 a4, .int .i64 a5, .int .i64 a6, .int .i64 a7, .int .i64 a8, .int .i64 a9, .int .i64 a10, .int .i64 a11, .int .i64 a12, .int .i64 a13, .int .i64 a14], .int .i64 (decE ks s).2]) ∧ Below W.heap.size W w' := by
    intro W hW
    have h := bcDecode_any A c ks B cb s W (hr.below hW (Nat.le_refl _)) hl (hs.below hW) hsc hs9 hsb hsl
    unfold DCRet at h
    rw [h15] at h
    exact h
  by_cases hz : (decE ks s).2 = 0
  · rw [hz] at hD
    have h : decE ks s = ([a0, a1, a2, a3, a4, a5, a6, a7, a8, a9, a10, a11, a12, a13, a14], 0) := Prod.ext h15 hz
    rw [toS_ok h]
    exact toStripe_yes A B c _ _ cb a0 a1 a2 a3 a4 a5 a6 a7 a8 a9 a10 a11 a12 a13 a14 l i k _ w hD (fun W hW => stEncode_any A c ks _ _ _ _ _ _ _ _ _ _ _ _ _ _ _ W (hr.below hW (Nat.le_refl _)) hl (mem15 (decE_small h).2.2.2.2.2 hk hl9 hi9))
  · rw [toS_bad hz]
    exact toStripe_no A B c _ _ cb a0 a1 a2 a3 a4 a5 a6 a7 a8 a9 a10 a11 a12 a13 a14 _ l i k w (by simpa using hz) hD
set_option maxHeartbeats 2000000 in
theorem toBarcode_any (A : Option Addr) (c : Nat) (ks : List Ky) (B : Option Addr) (cb : Nat) (s : List Int) (v k : Int) (w : World) (hr : RdK w A ks) (hl : ks.length ≤ 9223372036854775807) (hs : RdI w .u8 B s) (hsl : s.length ≤ 17592186044416) (hsb : ∀ x ∈ s, 0 ≤ x ∧ x < 256) :
    Calls Tryz.prog 25 #[.slice A ks.length c, .slice B s.length cb, .int .i64 v, .int .i64 k] w (ToBRet (toB ks s v k) w) := by
  obtain ⟨a0, a1, a2, a3, a4, a5, a6, a7, a8, a9, a10, a11, a12, a13, a14, h15⟩ := len15x (decS_15x ks s)
  have hD : ∀ W, Below w.heap.size w W → Calls Tryz.prog 17 #[.slice A ks.length c, .slice B s.length cb] W fun e w' => e = .returned (.tuple #[.agg #[.int .i64 a0, .int .i64 a1, .int .i64 a2, .int .i64 a3, .int .i64 a4, .int .i64 a5, .int .i64 a6, .int .i64 a7, .int .i64 a8, .int .i64 a9, .int .i64 a10, .int .i64 a11, .int .i64 a12, .int .i64 a13, .int .i64 a14], .int .i64 (decS ks s).2]) ∧ Below W.heap.size W w' := by
    intro W hW
    have h := stDecode_any A c ks B cb s W (hr.below hW (Nat.le_refl _)) hl (hs.below hW) hsl hsb
    unfold GetRet at h
    rw [h15] at h
    exact h
  by_cases hz : (decS ks s).2 = 0
  · rw [hz] at hD
    have h : decS ks s = ([a0, a1, a2, a3, a4, a5, a6, a7, a8, a9, a10, a11, a12, a13, a14], 0) := Prod.ext h15 hz
    rw [toB_ok h]
    exact toBarcode_yes A B c _ _ cb a0 a1 a2 a3 a4 a5 a6 a7 a8 a9 a10 a11 a12 a13 a14 v k _ w hD (fun W hW => bcEncode_any A c ks _ _ _ _ _ _ _ _ _ _ _ _ _ _ _ W (hr.below hW (Nat.le_refl _)) hl)
  · rw [toB_bad hz]
    exact toBarcode_no A B c _ _ cb a0 a1 a2 a3 a4 a5 a6 a7 a8 a9 a10 a11 a12 a13 a14 _ v k w (by simpa using hz) hD
end Go.Proofs.YtnbghgenaolfgaaGreat
