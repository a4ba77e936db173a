/- Layer 13's Put: what layout's Put computes. No condition. -/
import Derived.Test.YtachkhjbckapoaaT34
import Derived.Test.YtachkhjbckapoaaT06
namespace Go.Proofs.Ytachkhjbckapoaa
open Go.RowKit
set_option linter.unusedVariables false
set_option maxRecDepth 100000
set_option linter.unusedSimpArgs false

/-- The values that a stripe says, of a sheet's cells. -/
def layV (k : Int) (c : List Int) : List Int := (fl k).map (fun x => c.getD x.1 0)
def layR (T : Bool) (c : List Int) : List Int × Int :=
  if T = false ∨ suB (c.getD 9 0) (c.getD 12 0) (c.getD 13 0) = false ∨ c.getD 11 0 < 0 ∨ 100 ≤ c.getD 11 0 ∨ c.getD 14 0 ≠ 0 then ([], 1)
  else if c.getD 6 0 ≠ 0 ∨ 9999999 < c.getD 0 0 then ([], 18)
  else joinR (layV (c.getD 1 0) c) (wsL (c.getD 1 0))
def LayRet (r : List Int × Int) (w : World) (e : Ending) (w' : World) : Prop :=
  ∃ v, e = .returned (.tuple #[v, .int .i64 r.2]) ∧ w'.ownsRow w.heap.size 5 1 v r.1.length (r.1.map (.int .u8)) ∧ Below w.heap.size w w'

theorem tk_kind {a0 a1 a2 a3 a4 a5 a6 a7 a8 a9 a10 : Int} (h : tkB a0 a1 a2 a3 a4 a5 a6 a7 a8 a9 a10 = true) : ¬ a1 < 1 ∧ ¬ 4 < a1 := by
  unfold tkB wB at h
  simp only [Bool.and_eq_true, decide_eq_true_eq] at h
  omega
theorem wsL_le (k : Int) : (wsL k).length ≤ 13 := by
  unfold wsL
  split
  · simp
  · split
    · simp
    · split <;> simp
theorem fl_off (k : Int) : ∀ x ∈ fl k, x.1 < 15 := by
  unfold fl
  split
  · decide
  · split <;> decide

set_option maxHeartbeats 8000000 in
set_option maxRecDepth 100000 in
theorem layPut_full (a0 a1 a2 a3 a4 a5 a6 a7 a8 a9 a10 a11 a12 a13 a14 : Int) (w : World) (hv : ∀ x ∈ [a0, a1, a2, a3, a4, a5, a6, a7, a8, a9, a10, a11, a12, a13, a14], x ≤ 9223372036854775807)
    (hT : tkB a0 a1 a2 a3 a4 a5 a6 a7 a8 a9 a10 = true) (hS : suB a9 a12 a13 = true) (d1 : decide (a11 < 0) = false) (d2 : decide (100 ≤ a11) = false) (d3 : (a14 != 0) = false) (d4 : (a6 != 0) = false) (d5 : decide (9999999 < a0) = false) :
    Calls Try.prog 62 #[.agg #[.int .i64 a0, .int .i64 a1, .int .i64 a2, .int .i64 a3, .int .i64 a4, .int .i64 a5, .int .i64 a6, .int .i64 a7, .int .i64 a8, .int .i64 a9, .int .i64 a10, .int .i64 a11, .int .i64 a12, .int .i64 a13, .int .i64 a14]] w (LayRet (joinR (layV a1 [a0, a1, a2, a3, a4, a5, a6, a7, a8, a9, a10, a11, a12, a13, a14]) (wsL a1)) w) := by
  obtain ⟨i0, hi, hz0, hz1, hz2⟩ := info_parts infoI64
  have EW := Lib.hid (fl_ws (tk_kind hT).1 (tk_kind hT).2)
  go_enter Try.func62, Try.ntmps62
  go_wp2_with (first | (go_at_call 72; (with_reducible refine (tk_any _ _ _ _ _ _ _ _ _ _ _ _).mono ?_); rintro e w1 ⟨rfl, hb1⟩; obtain ⟨hc1, hf1⟩ := bcell hb1; have hz1 : w.heap.size < w1.heap.size := (by have := hb1.size; simp at this; omega); have HB1 := Lib.hid (bT (bel1 w _) hb1); clear hb1) | (go_at_call 102; (with_reducible refine (suits_any a0 a1 a2 a3 a4 a5 a6 a7 a8 a9 a10 a12 a13 _).mono ?_); rintro e w2 ⟨rfl, hb2⟩; obtain ⟨hc2, hf2⟩ := bcell hb2; have hz2 : w.heap.size < w2.heap.size := (by have := hb2.size; omega); have HB2 := Lib.hid (bT HB1.out hb2); clear hb2))
  clear hT hS d1 d2 d3 d4 d5 hc1 hf1 hc2 hf2
  obtain ⟨c, hcl⟩ : ∃ c : List Int, [a0, a1, a2, a3, a4, a5, a6, a7, a8, a9, a10, a11, a12, a13, a14] = c := ⟨_, rfl⟩
  have hck : c.length = 15 := by rw [← hcl]; rfl
  obtain ⟨W4, hW4⟩ : ∃ W4, w2.alloc (.cells #[.int .i64 a0, .int .i64 a1, .int .i64 a2, .int .i64 a3, .int .i64 a4, .int .i64 a5, .int .i64 a6, .int .i64 a7, .int .i64 a8, .int .i64 a9, .int .i64 a10, .int .i64 a11, .int .i64 a12, .int .i64 a13, .int .i64 a14] 116) = W4 := ⟨_, rfl⟩
  have h4c : ∀ o, o < 15 → W4.cell? ⟨w2.heap.size, o, none⟩ = some (.int .i64 (c.getD o 0)) := by
    intro o ho
    rw [← hW4, cell_of_row _ w2.heap.size o _ _ (0, 0) (heap_alloc_new w2 _), ← hcl]
    have : o = 0 ∨ o = 1 ∨ o = 2 ∨ o = 3 ∨ o = 4 ∨ o = 5 ∨ o = 6 ∨ o = 7 ∨ o = 8 ∨ o = 9 ∨ o = 10 ∨ o = 11 ∨ o = 12 ∨ o = 13 ∨ o = 14 := by omega
    rcases this with rfl | rfl | rfl | rfl | rfl | rfl | rfl | rfl | rfl | rfl | rfl | rfl | rfl | rfl | rfl <;> rfl
  have hk1 : c.getD 1 0 = a1 := by rw [← hcl]; rfl
  have h4k : W4.cell? ⟨w2.heap.size, 1, none⟩ = some (.int .i64 a1) := by rw [h4c 1 (by omega), hk1]
  have HB4 : Hid (Below w.heap.size w W4) := by rw [← hW4]; exact Lib.hid (bT HB2.out (bel1 _ _))
  obtain ⟨b, hb⟩ : ∃ b, w2.heap.size = b := ⟨_, rfl⟩
  rw [hb] at h4c h4k
  have hv' : ∀ x ∈ c, x ≤ 9223372036854775807 := by rw [← hcl]; exact hv
  rw [hW4, hb, hcl]
  have HCL := Lib.hid hcl
  clear hW4 hb hcl hk1 hv HB1 HB2 hz1 hz2
  refine (fields_any b a1 _ h4k).mono ?_
  rintro e w5 ⟨v, rfl, ho, hb5⟩
  obtain ⟨g, cap, rfl, hgl⟩ : ∃ g cap, v = .slice (some ⟨g, 0, none⟩) (fl a1).length cap ∧ g < w5.heap.size := by
    have hp := fl_pos a1
    rcases ho.2 with ⟨_, h0⟩ | ⟨g, cap, cur, rfl, _, hh, _⟩
    · omega
    · exact ⟨g, cap, rfl, (Array.getElem?_eq_some_iff.1 hh).1⟩
  have hcells : ∀ j, j < (fl a1).length → w5.cell? ⟨g, j * 2, none⟩ = some (.pointer (some ⟨b, ((fl a1).getD j (0, 0)).1, none⟩)) ∧ w5.cell? ⟨g, j * 2 + 1, none⟩ = some (.int .i64 ((fl a1).getD j (0, 0)).2) ∧ w5.cell? ⟨b, ((fl a1).getD j (0, 0)).1, none⟩ = some (.int .i64 (c.getD ((fl a1).getD j (0, 0)).1 0)) := by
    intro j hj
    obtain ⟨e1, e2⟩ := fl_cells b (fl a1) j hj
    refine ⟨(ho.cellAt (j * 2) (by omega)).trans e1, (ho.cellAt (j * 2 + 1) (by omega)).trans e2, keep_cell hb5 (h4c _ ?_)⟩
    have e : (fl a1).getD j (0, 0) = (fl a1)[j] := by simp [hj]
    rw [e]; exact fl_off a1 _ (List.getElem_mem hj)
  have HL := Lib.hid (fl_le a1)
  have HB5 := Lib.hid (bT HB4.out hb5)
  have H5K := Lib.hid (keep_cell hb5 h4k)
  clear ho hb5 h4c h4k
  obtain ⟨L, hL⟩ : ∃ L, fl a1 = L := ⟨_, rfl⟩
  rw [hL] at hcells HL ⊢
  have HLK := Lib.hid hL
  clear hL
  go_wp2
  go_loopw [5, 53] (fun v i wr => ∃ (j : Nat) (acc : List Int), j ≤ L.length ∧ i = .int .i64 j ∧ wr.ownsRow w5.heap.size 3 1 v acc.length (acc.map (.int .i64)) ∧ Hid (acc = (L.take j).map (fun x => c.getD x.1 0)) ∧ Below w5.heap.size w5 wr) (fun _ i _ => L.length - (intOf i).toNat)
  case atStart => exact ⟨0, [], Nat.zero_le _, rfl, World.ownsRow_nil _ _ _ _, Lib.hid (by simp), bR _⟩
  case round =>
    obtain ⟨j, acc, hj, rfl, ho, hacc, hbl⟩ := hrel
    by_cases hlt : j < L.length
    · obtain ⟨c1, c2, c3⟩ := hcells j hlt
      have c1' := keep_cell hbl c1
      have c2' := keep_cell hbl c2
      have c3' := keep_cell hbl c3
      have hj13 : j < 13 := by have := HL.out; omega
      have hal : acc.length ≤ 13 := by rw [hacc.out]; simp; omega
      have hsn := Lib.hid (show acc ++ [c.getD (L.getD j (0, 0)).1 0] = (L.take (j + 1)).map (fun x => c.getD x.1 0) by rw [hacc.out, List.take_succ_eq_append_getElem hlt, List.map_append]; congr 1; simp [hlt])
      obtain ⟨⟨o, d⟩, hq⟩ : ∃ q, L.getD j (0, 0) = q := ⟨_, rfl⟩
      rw [hq] at c1' c2' c3' hsn
      have hbb := World.block_lt_of_cell? _ _ c3'
      obtain ⟨x, hx⟩ : ∃ x, c.getD o 0 = x := ⟨_, rfl⟩
      simp only [hx] at c3' hsn
      have hsz := hbl.size
      have HG := Lib.hid (own_ge ho)
      clear hq c1 c2 c3 hx
      go_wp2_with (at_builtin; refine wpL_app (k := .i64) rfl _ _ 97 rfl w5.heap.size 3 i0 (.int .i64 0) 8 Try.underlying97 hi hz0 hz1 hz2 rfl _ acc rfl ((ho.alloc _).alloc _) _ _ [x] rfl (lit1s _ _ _ _ _) ?_ ?_ ?_ ?_; (focus (simp only [List.length_append, List.length_cons, List.length_nil]; exact maxLen_ge (by omega))); (focus (simp only [List.length_append, List.length_cons, List.length_nil]; omega)); (focus (simp; omega)); intro v3 w3 ho3 hg3 _)
      have hb3 := bG (bA (bA hbl _) _) hg3 HG.out
      have HO3 := Lib.hid ho3
      clear hg3 ho3 ho
      go_roundw
      case rel => exact ⟨j + 1, acc ++ [x], by omega, by go_num, HO3.out, hsn, hb3⟩
      case measure => simp [intOf]; omega
    · have hfin := Lib.hid (show layV a1 c = acc by rw [hacc.out, List.take_of_length_le (by omega)]; unfold layV; rw [HLK.out])
      have hal : acc.length ≤ 13 := by rw [hacc.out]; have := HL.out; simp; omega
      have hva : ∀ x ∈ acc, x ≤ 9223372036854775807 := by
        intro x hx
        rw [hacc.out] at hx
        obtain ⟨y, _, rfl⟩ := List.mem_map.1 hx
        by_cases hy : y.1 < c.length
        · exact hv' _ (getD_mem hy)
        · rw [List.getD_eq_getElem?_getD, List.getElem?_eq_none (by omega)]; simp
      obtain ⟨aA, ac, rfl, _, _⟩ := own_slice ho
      have ar := RdI.of_own ho
      have hk5 := keep_cell hbl H5K.out
      have HBr := Lib.hid (bT HB5.out hbl)
      clear ho hacc hbl hcells
      go_wp2_with fail
      refine (widths_any b a1 _ hk5).mono ?_
      rintro e w7 ⟨u, rfl, uo, hb7⟩
      rw [EW.out] at uo
      obtain ⟨uA, uc, rfl, _, _⟩ := own_slice uo
      have ur := RdI.of_own uo
      replace ar := ar.below hb7
      have HB7 := Lib.hid (bT HBr.out hb7)
      clear uo hb7
      go_wp2_with fail
      refine (bcdJoin_any _ _ _ _ acc (wsL a1) _ ar ur (by omega) (by have := wsL_le a1; omega) hva).mono ?_
      rintro e w8 ⟨z, rfl, zo, hb8⟩
      obtain ⟨zA, zc, rfl, _, _⟩ := own_slice zo
      have HO8 := Lib.hid zo
      have HB8 := Lib.hid (bT HB7.out hb8)
      clear zo hb8
      go_wp2
      go_ret2
      rw [HCL.out, hfin.out]
      exact ⟨.slice zA (joinR acc (wsL a1)).1.length zc, rfl, own_base HO8.out HB7.out.size, HB8.out⟩

set_option maxHeartbeats 8000000 in
set_option maxRecDepth 100000 in
theorem layPut_any (a0 a1 a2 a3 a4 a5 a6 a7 a8 a9 a10 a11 a12 a13 a14 : Int) (w : World) (hv : ∀ x ∈ [a0, a1, a2, a3, a4, a5, a6, a7, a8, a9, a10, a11, a12, a13, a14], x ≤ 9223372036854775807) :
    Calls Try.prog 62 #[.agg #[.int .i64 a0, .int .i64 a1, .int .i64 a2, .int .i64 a3, .int .i64 a4, .int .i64 a5, .int .i64 a6, .int .i64 a7, .int .i64 a8, .int .i64 a9, .int .i64 a10, .int .i64 a11, .int .i64 a12, .int .i64 a13, .int .i64 a14]] w (LayRet (layR (tkB a0 a1 a2 a3 a4 a5 a6 a7 a8 a9 a10) [a0, a1, a2, a3, a4, a5, a6, a7, a8, a9, a10, a11, a12, a13, a14]) w) := by
  cases hT : tkB a0 a1 a2 a3 a4 a5 a6 a7 a8 a9 a10 with
  | false =>
    have E := Lib.hid (show layR false [a0, a1, a2, a3, a4, a5, a6, a7, a8, a9, a10, a11, a12, a13, a14] = ([], 1) by unfold layR; rw [if_pos (by simp)])
    go_enter Try.func62, Try.ntmps62
    go_wp2_with (first | (go_at_call 72; (with_reducible refine (tk_any _ _ _ _ _ _ _ _ _ _ _ _).mono ?_); rintro e w1 ⟨rfl, hb1⟩; obtain ⟨hc1, hf1⟩ := bcell hb1; have hz1 : w.heap.size < w1.heap.size := (by have := hb1.size; simp at this; omega); have HB1 := Lib.hid (bT (bel1 w _) hb1); clear hb1) | (go_at_call 102; (with_reducible refine (suits_any a0 a1 a2 a3 a4 a5 a6 a7 a8 a9 a10 a12 a13 _).mono ?_); rintro e w2 ⟨rfl, hb2⟩; obtain ⟨hc2, hf2⟩ := bcell hb2; have hz2 : w.heap.size < w2.heap.size := (by have := hb2.size; omega); have HB2 := Lib.hid (bT HB1.out hb2); clear hb2))
    go_ret2
    exact ⟨_, by rw [E.out] <;> rfl, by rw [E.out]; exact World.ownsRow_nil _ _ _ _, HB1.out⟩
  | true =>
  cases hS : suB a9 a12 a13 with
  | false =>
    have E := Lib.hid (show layR true [a0, a1, a2, a3, a4, a5, a6, a7, a8, a9, a10, a11, a12, a13, a14] = ([], 1) by unfold layR; rw [if_pos (by simp [hS])])
    go_enter Try.func62, Try.ntmps62
    go_wp2_with (first | (go_at_call 72; (with_reducible refine (tk_any _ _ _ _ _ _ _ _ _ _ _ _).mono ?_); rintro e w1 ⟨rfl, hb1⟩; obtain ⟨hc1, hf1⟩ := bcell hb1; have hz1 : w.heap.size < w1.heap.size := (by have := hb1.size; simp at this; omega); have HB1 := Lib.hid (bT (bel1 w _) hb1); clear hb1) | (go_at_call 102; (with_reducible refine (suits_any a0 a1 a2 a3 a4 a5 a6 a7 a8 a9 a10 a12 a13 _).mono ?_); rintro e w2 ⟨rfl, hb2⟩; obtain ⟨hc2, hf2⟩ := bcell hb2; have hz2 : w.heap.size < w2.heap.size := (by have := hb2.size; omega); have HB2 := Lib.hid (bT HB1.out hb2); clear hb2))
    go_ret2
    exact ⟨_, by rw [E.out] <;> rfl, by rw [E.out]; exact World.ownsRow_nil _ _ _ _, HB2.out⟩
  | true =>
  by_cases h1 : a11 < 0
  · have E := Lib.hid (show layR true [a0, a1, a2, a3, a4, a5, a6, a7, a8, a9, a10, a11, a12, a13, a14] = ([], 1) by unfold layR; rw [if_pos (by simp [hS]; omega)])
    have d1 : decide (a11 < 0) = true := by simpa using h1
    go_enter Try.func62, Try.ntmps62
    go_wp2_with (first | (go_at_call 72; (with_reducible refine (tk_any _ _ _ _ _ _ _ _ _ _ _ _).mono ?_); rintro e w1 ⟨rfl, hb1⟩; obtain ⟨hc1, hf1⟩ := bcell hb1; have hz1 : w.heap.size < w1.heap.size := (by have := hb1.size; simp at this; omega); have HB1 := Lib.hid (bT (bel1 w _) hb1); clear hb1) | (go_at_call 102; (with_reducible refine (suits_any a0 a1 a2 a3 a4 a5 a6 a7 a8 a9 a10 a12 a13 _).mono ?_); rintro e w2 ⟨rfl, hb2⟩; obtain ⟨hc2, hf2⟩ := bcell hb2; have hz2 : w.heap.size < w2.heap.size := (by have := hb2.size; omega); have HB2 := Lib.hid (bT HB1.out hb2); clear hb2))
    go_ret2
    exact ⟨_, by rw [E.out] <;> rfl, by rw [E.out]; exact World.ownsRow_nil _ _ _ _, HB2.out⟩
  have d1 : decide (a11 < 0) = false := by simpa using h1
  by_cases h2 : 100 ≤ a11
  · have E := Lib.hid (show layR true [a0, a1, a2, a3, a4, a5, a6, a7, a8, a9, a10, a11, a12, a13, a14] = ([], 1) by unfold layR; rw [if_pos (by simp [hS]; omega)])
    have d2 : decide (100 ≤ a11) = true := by simpa using h2
    go_enter Try.func62, Try.ntmps62
    go_wp2_with (first | (go_at_call 72; (with_reducible refine (tk_any _ _ _ _ _ _ _ _ _ _ _ _).mono ?_); rintro e w1 ⟨rfl, hb1⟩; obtain ⟨hc1, hf1⟩ := bcell hb1; have hz1 : w.heap.size < w1.heap.size := (by have := hb1.size; simp at this; omega); have HB1 := Lib.hid (bT (bel1 w _) hb1); clear hb1) | (go_at_call 102; (with_reducible refine (suits_any a0 a1 a2 a3 a4 a5 a6 a7 a8 a9 a10 a12 a13 _).mono ?_); rintro e w2 ⟨rfl, hb2⟩; obtain ⟨hc2, hf2⟩ := bcell hb2; have hz2 : w.heap.size < w2.heap.size := (by have := hb2.size; omega); have HB2 := Lib.hid (bT HB1.out hb2); clear hb2))
    go_ret2
    exact ⟨_, by rw [E.out] <;> rfl, by rw [E.out]; exact World.ownsRow_nil _ _ _ _, HB2.out⟩
  have d2 : decide (100 ≤ a11) = false := by simpa using h2
  by_cases h3 : a14 = 0
  rotate_left
  · have E := Lib.hid (show layR true [a0, a1, a2, a3, a4, a5, a6, a7, a8, a9, a10, a11, a12, a13, a14] = ([], 1) by unfold layR; rw [if_pos (by simp [hS]; omega)])
    have d3 : (a14 != 0) = true := by simpa using h3
    go_enter Try.func62, Try.ntmps62
    go_wp2_with (first | (go_at_call 72; (with_reducible refine (tk_any _ _ _ _ _ _ _ _ _ _ _ _).mono ?_); rintro e w1 ⟨rfl, hb1⟩; obtain ⟨hc1, hf1⟩ := bcell hb1; have hz1 : w.heap.size < w1.heap.size := (by have := hb1.size; simp at this; omega); have HB1 := Lib.hid (bT (bel1 w _) hb1); clear hb1) | (go_at_call 102; (with_reducible refine (suits_any a0 a1 a2 a3 a4 a5 a6 a7 a8 a9 a10 a12 a13 _).mono ?_); rintro e w2 ⟨rfl, hb2⟩; obtain ⟨hc2, hf2⟩ := bcell hb2; have hz2 : w.heap.size < w2.heap.size := (by have := hb2.size; omega); have HB2 := Lib.hid (bT HB1.out hb2); clear hb2))
    go_ret2
    exact ⟨_, by rw [E.out] <;> rfl, by rw [E.out]; exact World.ownsRow_nil _ _ _ _, HB2.out⟩
  have d3 : (a14 != 0) = false := by simpa using h3
  have H3 := Lib.hid h3
  clear h3
  by_cases h4 : a6 = 0
  rotate_left
  · have E := Lib.hid (show layR true [a0, a1, a2, a3, a4, a5, a6, a7, a8, a9, a10, a11, a12, a13, a14] = ([], 18) by unfold layR; have h3 := H3.out; rw [if_neg (by simp [hS]; omega), if_pos (by simp; omega)])
    have d4 : (a6 != 0) = true := by simpa using h4
    go_enter Try.func62, Try.ntmps62
    go_wp2_with (first | (go_at_call 72; (with_reducible refine (tk_any _ _ _ _ _ _ _ _ _ _ _ _).mono ?_); rintro e w1 ⟨rfl, hb1⟩; obtain ⟨hc1, hf1⟩ := bcell hb1; have hz1 : w.heap.size < w1.heap.size := (by have := hb1.size; simp at this; omega); have HB1 := Lib.hid (bT (bel1 w _) hb1); clear hb1) | (go_at_call 102; (with_reducible refine (suits_any a0 a1 a2 a3 a4 a5 a6 a7 a8 a9 a10 a12 a13 _).mono ?_); rintro e w2 ⟨rfl, hb2⟩; obtain ⟨hc2, hf2⟩ := bcell hb2; have hz2 : w.heap.size < w2.heap.size := (by have := hb2.size; omega); have HB2 := Lib.hid (bT HB1.out hb2); clear hb2))
    go_ret2
    exact ⟨_, by rw [E.out] <;> rfl, by rw [E.out]; exact World.ownsRow_nil _ _ _ _, HB2.out⟩
  have d4 : (a6 != 0) = false := by simpa using h4
  have H4 := Lib.hid h4
  clear h4
  by_cases h5 : 9999999 < a0
  · have E := Lib.hid (show layR true [a0, a1, a2, a3, a4, a5, a6, a7, a8, a9, a10, a11, a12, a13, a14] = ([], 18) by unfold layR; have h3 := H3.out; rw [if_neg (by simp [hS]; omega), if_pos (by simp; omega)])
    have d5 : decide (9999999 < a0) = true := by simpa using h5
    go_enter Try.func62, Try.ntmps62
    go_wp2_with (first | (go_at_call 72; (with_reducible refine (tk_any _ _ _ _ _ _ _ _ _ _ _ _).mono ?_); rintro e w1 ⟨rfl, hb1⟩; obtain ⟨hc1, hf1⟩ := bcell hb1; have hz1 : w.heap.size < w1.heap.size := (by have := hb1.size; simp at this; omega); have HB1 := Lib.hid (bT (bel1 w _) hb1); clear hb1) | (go_at_call 102; (with_reducible refine (suits_any a0 a1 a2 a3 a4 a5 a6 a7 a8 a9 a10 a12 a13 _).mono ?_); rintro e w2 ⟨rfl, hb2⟩; obtain ⟨hc2, hf2⟩ := bcell hb2; have hz2 : w.heap.size < w2.heap.size := (by have := hb2.size; omega); have HB2 := Lib.hid (bT HB1.out hb2); clear hb2))
    go_ret2
    exact ⟨_, by rw [E.out] <;> rfl, by rw [E.out]; exact World.ownsRow_nil _ _ _ _, HB2.out⟩
  have d5 : decide (9999999 < a0) = false := by simpa using h5
  have E := Lib.hid (show layR true [a0, a1, a2, a3, a4, a5, a6, a7, a8, a9, a10, a11, a12, a13, a14] = joinR (layV a1 [a0, a1, a2, a3, a4, a5, a6, a7, a8, a9, a10, a11, a12, a13, a14]) (wsL a1) by have h3 := H3.out; have h4 := H4.out; unfold layR; rw [if_neg (by simp [hS]; omega), if_neg (by simp; omega)]; rfl)
  rw [E.out]
  exact layPut_full a0 a1 a2 a3 a4 a5 a6 a7 a8 a9 a10 a11 a12 a13 a14 w hv hT hS d1 d2 d3 d4 d5
end Go.Proofs.Ytachkhjbckapoaa
