/- Layer 18: what fields.Put computes. No condition. -/
import Derived.Test.YtachkhjbckapoaaT29
import Derived.Test.YtachkhjbckapoaaT30
namespace Go.Proofs.Ytachkhjbckapoaa
open Go.RowKit
set_option linter.unusedVariables false
set_option maxRecDepth 100000
set_option linter.unusedSimpArgs false

set_option maxHeartbeats 8000000 in
set_option maxRecDepth 100000 in
theorem fieldsPut_ok (a0 a1 a2 a3 a4 a5 a6 a7 a8 a9 a10 a11 a12 a13 a14 : Int) (w : World) (hR : readB [a0, a1, a2, a3, a4, a5, a6, a7, a8, a9, a10, a11, a12, a13, a14] = true)
    (hT : tkB a0 a1 a2 a3 a4 a5 a6 a7 a8 a9 a10 = true) (d1 : decide (a11 < 0) = false) (d2 : decide (100 ≤ a11) = false) (d3 : a12 = 0) (d3' : a13 = 0) (d4 : decide (a14 < 1) = false) (d5 : decide (3 < a14) = false) :
    Calls Try.prog 29 #[.agg #[.int .i64 a0, .int .i64 a1, .int .i64 a2, .int .i64 a3, .int .i64 a4, .int .i64 a5, .int .i64 a6, .int .i64 a7, .int .i64 a8, .int .i64 a9, .int .i64 a10, .int .i64 a11, .int .i64 a12, .int .i64 a13, .int .i64 a14]] w (FieldsRet (fpE [a0, a1, a2, a3, a4, a5, a6, a7, a8, a9, a10, a11, a12, a13, a14]) w) := by
  obtain ⟨i0, hi, hz0, hz1, hz2⟩ := info_parts infoFd
  subst d3 d3'
  have EF := Lib.hid (show fpE [a0, a1, a2, a3, a4, a5, a6, a7, a8, a9, a10, a11, 0, 0, a14] = fpGo [a0, a1, a2, a3, a4, a5, a6, a7, a8, a9, a10, a11, 0, 0, a14] 13 [] by unfold fpE; rw [if_pos hR])
  have HN := Lib.hid (nums_bound hR)
  clear hR
  obtain ⟨rv, hrv⟩ : ∃ rv, fpE [a0, a1, a2, a3, a4, a5, a6, a7, a8, a9, a10, a11, 0, 0, a14] = rv := ⟨_, rfl⟩
  rw [hrv] at EF ⊢
  clear hrv
  go_enter Try.func29, Try.ntmps29
  go_wp2_with (first | (go_at_call 72; (with_reducible refine (tk_any a0 a1 a2 a3 a4 a5 a6 a7 a8 a9 a10 _).mono ?_); rintro e w1 ⟨he, hb1⟩; rw [hT] at he; subst he; obtain ⟨hcb1, hfb1⟩ := bcell hb1; have hlt1 : w.heap.size < w1.heap.size := (by have := hb1.size; simp at this; omega); have HB1 := Lib.hid (bT (bel1 w _) hb1); clear hb1))
  obtain ⟨c, hcl⟩ : ∃ c : List Int, [a0, a1, a2, a3, a4, a5, a6, a7, a8, a9, a10, a11, 0, 0, a14] = c := ⟨_, rfl⟩
  obtain ⟨W4, hW4⟩ : ∃ W4, w1.alloc (.cells #[.int .i64 a0, .int .i64 a1, .int .i64 a2, .int .i64 a3, .int .i64 a4, .int .i64 a5, .int .i64 a6, .int .i64 a7, .int .i64 a8, .int .i64 a9, .int .i64 a10, .int .i64 a11, .int .i64 0, .int .i64 0, .int .i64 a14] 86) = W4 := ⟨_, rfl⟩
  have h4c : ∀ o, o < 15 → W4.cell? ⟨w1.heap.size, o, none⟩ = some (.int .i64 (c.getD o 0)) := by
    intro o ho
    rw [← hW4, cell_of_row _ w1.heap.size o _ _ (0, 0) (heap_alloc_new w1 _), ← hcl]
    have : o = 0 ∨ o = 1 ∨ o = 2 ∨ o = 3 ∨ o = 4 ∨ o = 5 ∨ o = 6 ∨ o = 7 ∨ o = 8 ∨ o = 9 ∨ o = 10 ∨ o = 11 ∨ o = 12 ∨ o = 13 ∨ o = 14 := by omega
    rcases this with rfl | rfl | rfl | rfl | rfl | rfl | rfl | rfl | rfl | rfl | rfl | rfl | rfl | rfl | rfl <;> rfl
  have hck : ∀ W, W = w.alloc (.cells #[.int .i64 a0, .int .i64 a1, .int .i64 a2, .int .i64 a3, .int .i64 a4, .int .i64 a5, .int .i64 a6, .int .i64 a7, .int .i64 a8, .int .i64 a9, .int .i64 a10, .int .i64 a11, .int .i64 0, .int .i64 0, .int .i64 a14] 28) → W.cell? ⟨w.heap.size, 1, none⟩ = some (.int .i64 (c.getD 1 0)) ∧ W.cell? ⟨w.heap.size, 14, none⟩ = some (.int .i64 (c.getD 14 0)) := by
    intro W hW
    subst hW
    rw [← hcl]
    exact ⟨cell_of_row _ _ 1 _ _ _ (heap_alloc_new w _), cell_of_row _ _ 14 _ _ _ (heap_alloc_new w _)⟩
  obtain ⟨hk1, hk14⟩ := hck _ rfl
  have hk1 : W4.cell? ⟨w.heap.size, 1, none⟩ = some (.int .i64 (c.getD 1 0)) := by
    rw [← hW4]; exact keep_cell (bel1 _ _) ((hcb1 _ _ (by simp)).trans hk1)
  have hk14 : W4.cell? ⟨w.heap.size, 14, none⟩ = some (.int .i64 (c.getD 14 0)) := by
    rw [← hW4]; exact keep_cell (bel1 _ _) ((hcb1 _ _ (by simp)).trans hk14)
  have HB4 : Hid (Below w.heap.size w W4) := by rw [← hW4]; exact Lib.hid (bT HB1.out (bel1 _ _))
  obtain ⟨g, hg⟩ : ∃ g, w1.heap.size = g := ⟨_, rfl⟩
  rw [hg] at h4c
  rw [hW4, hg]
  rw [hcl] at EF HN
  clear hT d1 d2 d4 d5 hcb1 hfb1 hlt1 HB1 hW4 hg hck hcl
  clear w1
  go_loopw [6, 7, 8, 9, 10, 11, 12] (fun out tg _ _ _ _ _ wr => ∃ (m : Nat) (L : List Fv), m ≤ 13 ∧ tg = .int .i64 (14 - (m : Int)) ∧ OwnF W4.heap.size wr out L ∧ L.length + m ≤ 13 ∧ Hid (fpGo c m (L.map (·.f)) = fpGo c 13 []) ∧ Below W4.heap.size W4 wr) (fun _ tg _ _ _ _ _ _ => (14 - intOf tg).toNat)
  case atStart => exact ⟨13, [], Nat.le_refl _, rfl, OwnF.nil _ _, by simp, Lib.hid (by simp), Below.refl _ _⟩
  case round =>
    obtain ⟨m, L, hm, rfl, hO, hLm, hq, hbW⟩ := hrel
    cases m with
    | zero =>
      have HE := Lib.hid (EF.out.trans (hq.out.symm.trans (show fpGo c 0 (L.map (·.f)) = (L.map (·.f), 0) from rfl)))
      have HO := Lib.hid hO
      have HB := Lib.hid (bT HB4.out hbW)
      clear hO hq EF
      go_wp2
      go_ret2
      exact ⟨_, L, by rw [HE.out] <;> rfl, by rw [HE.out], HO.out.mono HB4.out.size, HB.out⟩
    | succ m =>
      obtain ⟨t, ht⟩ : ∃ t : Int, 13 - (m : Int) = t := ⟨_, rfl⟩
      have ht1 : 1 ≤ t := by omega
      have ht2 : t ≤ 13 := by omega
      have hpl := plc_lt t ht1 ht2
      have hx := HN.out t ht1 ht2
      have hcx := keep_cell hbW (h4c (plc t) hpl)
      have hk1' := keep_cell hbW hk1
      have hk14' := keep_cell hbW hk14
      have e := hq.out
      rw [fpGo_succ, ht] at e
      rw [show (14 : Int) - ((m + 1 : Nat) : Int) = t by omega]
      have hm12 : m = 1 ↔ t = 12 := by omega
      generalize c.getD (plc t) 0 = x at *
      generalize c.getD 1 0 = kd at *
      generalize c.getD 14 0 = vr at *
      have HE := Lib.hid e
      have HT := Lib.hid ht
      have HM := Lib.hid hm12
      have HB := Lib.hid (bT HB4.out hbW)
      have HBW := Lib.hid hbW
      clear e ht hq hbW hk1 hk14 h4c hm12
      have hle : t ≤ 13 := ht2
      by_cases g1 : x = 0
      · subst g1
        have e := HE.out
        rw [if_pos rfl] at e
        have HX := Lib.hid e
        clear HE e
        go_wp2_with (go_at_call 73; (with_reducible refine (fplace_any _ _ _ ht1 ht2).mono ?_); rintro e w2 ⟨rfl, hb2⟩; have hcx2 := keep_cell hb2 hcx; have HO2 := Lib.hid (hO.below hb2); have HB2 := Lib.hid hb2)
        exact ⟨⟨m, L, by omega, by rw [← HT.out]; congr 1; omega, HO2.out, by omega, HX, bT HBW.out HB2.out⟩, by simp [intOf]; omega⟩
      have hx0 : (x == 0) = false := by simpa using g1
      have e := HE.out
      rw [if_neg g1] at e
      have HE := Lib.hid e
      clear e
      by_cases g2 : t = 12 ∧ kd ≠ 4
      · have e := HE.out
        rw [if_pos ⟨HM.out.2 g2.1, g2.2⟩] at e
        have HX := Lib.hid e
        have hkd : (kd != 4) = true := by simpa using g2.2
        have htb : (t == 12) = true := by simpa using g2.1
        clear HE e g2
        go_wp2_with (go_at_call 73; (with_reducible refine (fplace_any _ _ _ ht1 ht2).mono ?_); rintro e w2 ⟨rfl, hb2⟩; have hcx2 := keep_cell hb2 hcx; have hk2 := keep_cell hb2 hk1'; have HO2 := Lib.hid (hO.below hb2); have HB2 := Lib.hid hb2; clear hb2 hO hcx hk1' hk14')
        exact ⟨⟨m, L, by omega, by rw [← HT.out]; congr 1; omega, HO2.out, by omega, HX, bT HBW.out HB2.out⟩, by simp [intOf]; omega⟩
      have e := HE.out
      rw [if_neg (fun h => g2 ⟨HM.out.1 h.1, h.2⟩)] at e
      have HE := Lib.hid e
      clear e
      have hkt : (t == 12) = false ∨ ((t == 12) = true ∧ (kd != 4) = false) := by
        by_cases h : t = 12
        · right; exact ⟨by simpa using h, by simp; exact Classical.not_not.1 fun hk => g2 ⟨h, hk⟩⟩
        · left; simpa using h
      clear g2
      rcases hkt with htb | ⟨htb, hkd⟩
      · by_cases g3 : vr < nameE t
        · have e := HE.out
          rw [if_pos g3] at e
          have HX := Lib.hid (EF.out.trans e.symm)
          clear HE e EF
          go_wp2_with (first | (go_at_call 73; (with_reducible refine (fplace_any _ _ _ ht1 ht2).mono ?_); rintro e w2 ⟨rfl, hb2⟩; have hcx2 := keep_cell hb2 hcx; have hk2 := keep_cell hb2 hk1'; have hv2 := keep_cell hb2 hk14'; have HO2 := Lib.hid (hO.below hb2); have HB2 := Lib.hid (bT HBW.out hb2); have hzw := (bT HBW.out hb2).size; clear hb2 hO hcx hk1' hk14') | (go_at_call 74; (with_reducible refine (name_any _ _).mono ?_); rintro e w3 ⟨rfl, rfl⟩))
          go_ret2
          exact ⟨_, [], by rw [HX.out] <;> rfl, by rw [HX.out] <;> rfl, OwnF.nil _ _, bT HB4.out HB2.out⟩
        · have e := HE.out
          rw [if_neg g3] at e
          have HX := Lib.hid e
          have hx9 : x ≤ 9223372036854775807 := by omega
          clear HE e
          go_wp2_with (first | (go_at_call 73; (with_reducible refine (fplace_any _ _ _ ht1 ht2).mono ?_); rintro e w2 ⟨rfl, hb2⟩; have hcx2 := keep_cell hb2 hcx; have hk2 := keep_cell hb2 hk1'; have hv2 := keep_cell hb2 hk14'; have HO2 := Lib.hid (hO.below hb2); have HB2 := Lib.hid (bT HBW.out hb2); have hzw := (bT HBW.out hb2).size; clear hb2 hO hcx hk1' hk14') | (go_at_call 74; (with_reducible refine (name_any _ _).mono ?_); rintro e w3 ⟨rfl, rfl⟩) | (go_at_call 75; (with_reducible refine (number_any _ _ hx.1 hx9).mono ?_); rintro e w4 ⟨⟨B, cB, rfl, hBl, hBc, hBr, hBf⟩, hb4⟩; have HO4 := HO2.out.below hb4; have HBN := Lib.hid (bT HB2.out hb4); have hz4 := (bT HB2.out hb4).size; have hz3 := hb4.size) | (at_builtin; go_loud (refine wpList_append_own_at _ rfl _ _ 50 rfl W4.heap.size 67 i0 (.agg #[.int .i64 0, .slice none 0 0]) 2 32 Try.underlying50 hi hz0 hz1 hz2 rfl (by decide) _ L.length (fvCells L) rfl (HO4.below (bel1 _ _)).1 ⟨w4.heap.size, 0, none⟩ 1 1 [.int .i64 t, .slice B (numL x).length cB] rfl rfl (fcells_new _ _ _) ?_ ?_ ?_ ?_ ?_); (focus (go_loud (simp [Value.oneCell']))); (focus (go_loud (exact maxLen_ge (by omega)))); (focus (go_loud (omega))); (focus (simp; omega)); intro v5 w5 ho5 hg5 _ ha5; have HL5 := Lib.hid (OwnF.app (x := ⟨⟨t, numL x⟩, B, cB⟩) (HO4.below (bel1 _ _)) ⟨hBl, hBc, hBr.below (bel1 _ _), numL_byte _, .inr fun a ha => ⟨Nat.le_trans hzw (hBf a ha), fun h => absurd ((HO2.out.1.lt _ h.symm).2) (Nat.not_lt.2 (hBf a ha))⟩⟩ ho5 hg5 ha5); have HB5 := Lib.hid (bG (bA HBN.out _) hg5 (own_ge HO4.1))))
          exact ⟨⟨m, L ++ [⟨⟨t, numL x⟩, B, cB⟩], by omega, by rw [← HT.out]; congr 1; omega, HL5.out, by rw [List.length_append]; simp; omega, Lib.hid (by have h := HX.out; rw [← h, List.map_append]; rfl), HB5.out⟩, by simp [intOf]; omega⟩
      · by_cases g3 : vr < nameE t
        · have e := HE.out
          rw [if_pos g3] at e
          have HX := Lib.hid (EF.out.trans e.symm)
          clear HE e EF
          go_wp2_with (first | (go_at_call 73; (with_reducible refine (fplace_any _ _ _ ht1 ht2).mono ?_); rintro e w2 ⟨rfl, hb2⟩; have hcx2 := keep_cell hb2 hcx; have hk2 := keep_cell hb2 hk1'; have hv2 := keep_cell hb2 hk14'; have HO2 := Lib.hid (hO.below hb2); have HB2 := Lib.hid (bT HBW.out hb2); have hzw := (bT HBW.out hb2).size; clear hb2 hO hcx hk1' hk14') | (go_at_call 74; (with_reducible refine (name_any _ _).mono ?_); rintro e w3 ⟨rfl, rfl⟩))
          go_ret2
          exact ⟨_, [], by rw [HX.out] <;> rfl, by rw [HX.out] <;> rfl, OwnF.nil _ _, bT HB4.out HB2.out⟩
        · have e := HE.out
          rw [if_neg g3] at e
          have HX := Lib.hid e
          have hx9 : x ≤ 9223372036854775807 := by omega
          clear HE e
          go_wp2_with (first | (go_at_call 73; (with_reducible refine (fplace_any _ _ _ ht1 ht2).mono ?_); rintro e w2 ⟨rfl, hb2⟩; have hcx2 := keep_cell hb2 hcx; have hk2 := keep_cell hb2 hk1'; have hv2 := keep_cell hb2 hk14'; have HO2 := Lib.hid (hO.below hb2); have HB2 := Lib.hid (bT HBW.out hb2); have hzw := (bT HBW.out hb2).size; clear hb2 hO hcx hk1' hk14') | (go_at_call 74; (with_reducible refine (name_any _ _).mono ?_); rintro e w3 ⟨rfl, rfl⟩) | (go_at_call 75; (with_reducible refine (number_any _ _ hx.1 hx9).mono ?_); rintro e w4 ⟨⟨B, cB, rfl, hBl, hBc, hBr, hBf⟩, hb4⟩; have HO4 := HO2.out.below hb4; have HBN := Lib.hid (bT HB2.out hb4); have hz4 := (bT HB2.out hb4).size; have hz3 := hb4.size) | (at_builtin; go_loud (refine wpList_append_own_at _ rfl _ _ 50 rfl W4.heap.size 67 i0 (.agg #[.int .i64 0, .slice none 0 0]) 2 32 Try.underlying50 hi hz0 hz1 hz2 rfl (by decide) _ L.length (fvCells L) rfl (HO4.below (bel1 _ _)).1 ⟨w4.heap.size, 0, none⟩ 1 1 [.int .i64 t, .slice B (numL x).length cB] rfl rfl (fcells_new _ _ _) ?_ ?_ ?_ ?_ ?_); (focus (go_loud (simp [Value.oneCell']))); (focus (go_loud (exact maxLen_ge (by omega)))); (focus (go_loud (omega))); (focus (simp; omega)); intro v5 w5 ho5 hg5 _ ha5; have HL5 := Lib.hid (OwnF.app (x := ⟨⟨t, numL x⟩, B, cB⟩) (HO4.below (bel1 _ _)) ⟨hBl, hBc, hBr.below (bel1 _ _), numL_byte _, .inr fun a ha => ⟨Nat.le_trans hzw (hBf a ha), fun h => absurd ((HO2.out.1.lt _ h.symm).2) (Nat.not_lt.2 (hBf a ha))⟩⟩ ho5 hg5 ha5); have HB5 := Lib.hid (bG (bA HBN.out _) hg5 (own_ge HO4.1))))
          exact ⟨⟨m, L ++ [⟨⟨t, numL x⟩, B, cB⟩], by omega, by rw [← HT.out]; congr 1; omega, HL5.out, by rw [List.length_append]; simp; omega, Lib.hid (by have h := HX.out; rw [← h, List.map_append]; rfl), HB5.out⟩, by simp [intOf]; omega⟩

theorem fieldsPut_any (a0 a1 a2 a3 a4 a5 a6 a7 a8 a9 a10 a11 a12 a13 a14 : Int) (w : World) :
    Calls Try.prog 29 #[.agg #[.int .i64 a0, .int .i64 a1, .int .i64 a2, .int .i64 a3, .int .i64 a4, .int .i64 a5, .int .i64 a6, .int .i64 a7, .int .i64 a8, .int .i64 a9, .int .i64 a10, .int .i64 a11, .int .i64 a12, .int .i64 a13, .int .i64 a14]] w (FieldsRet (fpE [a0, a1, a2, a3, a4, a5, a6, a7, a8, a9, a10, a11, a12, a13, a14]) w) := by
  have hno : readB [a0, a1, a2, a3, a4, a5, a6, a7, a8, a9, a10, a11, a12, a13, a14] = false → Hid (fpE [a0, a1, a2, a3, a4, a5, a6, a7, a8, a9, a10, a11, a12, a13, a14] = ([], 1)) := fun h => Lib.hid (by unfold fpE; rw [h]; rfl)
  have hrd : readB [a0, a1, a2, a3, a4, a5, a6, a7, a8, a9, a10, a11, a12, a13, a14] = (tkB a0 a1 a2 a3 a4 a5 a6 a7 a8 a9 a10 && (decide (0 ≤ a11) && decide (a11 < 100)) && (decide (a12 = 0) && decide (a13 = 0)) && (decide (1 ≤ a14) && decide (a14 ≤ 3))) := rfl
  cases hT : tkB a0 a1 a2 a3 a4 a5 a6 a7 a8 a9 a10 with
  | false => exact fieldsPut_b1 a0 a1 a2 a3 a4 a5 a6 a7 a8 a9 a10 a11 a12 a13 a14 w (hno (by rw [hrd, hT]; rfl)) hT
  | true =>
    by_cases h1 : a11 < 0
    · exact fieldsPut_b2 a0 a1 a2 a3 a4 a5 a6 a7 a8 a9 a10 a11 a12 a13 a14 w (hno (by rw [hrd, decide_eq_false (p := 0 ≤ a11) (by omega)]; simp)) hT (by simpa using h1)
    by_cases h2 : 100 ≤ a11
    · exact fieldsPut_b3 a0 a1 a2 a3 a4 a5 a6 a7 a8 a9 a10 a11 a12 a13 a14 w (hno (by rw [hrd, decide_eq_false (p := a11 < 100) (by omega)]; simp)) hT (by simpa using h1) (by simpa using h2)
    by_cases h3 : a12 = 0
    rotate_left
    · exact fieldsPut_b4 a0 a1 a2 a3 a4 a5 a6 a7 a8 a9 a10 a11 a12 a13 a14 w (hno (by rw [hrd, decide_eq_false h3]; simp)) hT (by simpa using h1) (by simpa using h2) (by simpa using h3)
    by_cases h3b : a13 = 0
    rotate_left
    · exact fieldsPut_b5 a0 a1 a2 a3 a4 a5 a6 a7 a8 a9 a10 a11 a12 a13 a14 w (hno (by rw [hrd, decide_eq_false h3b]; simp)) hT (by simpa using h1) (by simpa using h2) (by simpa using h3) (by simpa using h3b)
    by_cases h4 : a14 < 1
    · exact fieldsPut_b6 a0 a1 a2 a3 a4 a5 a6 a7 a8 a9 a10 a11 a12 a13 a14 w (hno (by rw [hrd, decide_eq_false (p := 1 ≤ a14) (by omega)]; simp)) hT (by simpa using h1) (by simpa using h2) (by simpa using h3) (by simpa using h3b) (by simpa using h4)
    by_cases h5 : 3 < a14
    · exact fieldsPut_b7 a0 a1 a2 a3 a4 a5 a6 a7 a8 a9 a10 a11 a12 a13 a14 w (hno (by rw [hrd, decide_eq_false (p := a14 ≤ 3) (by omega)]; simp)) hT (by simpa using h1) (by simpa using h2) (by simpa using h3) (by simpa using h3b) (by simpa using h4) (by simpa using h5)
    exact fieldsPut_ok a0 a1 a2 a3 a4 a5 a6 a7 a8 a9 a10 a11 a12 a13 a14 w (by rw [hrd, hT, decide_eq_true (p := 0 ≤ a11) (by omega), decide_eq_true (p := a11 < 100) (by omega), decide_eq_true h3, decide_eq_true h3b, decide_eq_true (p := 1 ≤ a14) (by omega), decide_eq_true (p := a14 ≤ 3) (by omega)]; rfl) hT (by simpa using h1) (by simpa using h2) h3 h3b (by simpa using h4) (by simpa using h5)
end Go.Proofs.Ytachkhjbckapoaa
