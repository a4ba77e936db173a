/- Layer 18: what fields.Put computes. Layer 19: steps one behind the other, till one has an error: three function values, whatever they do. Layer 19: the three steps of barcode.Encode, each by itself. Layer 19: the second and the third step of barcode.Encode. No condition. -/
import Derived.Test.YtnbghgenaolfgaaGreatZ14
import Derived.Test.YtnbghgenaolfgaaGreatZ00
namespace Go.Proofs.YtnbghgenaolfgaaGreat
open Go.RowKit
set_option linter.unusedVariables false
set_option maxRecDepth 100000
set_option linter.unusedSimpArgs false

set_option maxHeartbeats 8000000 in
set_option maxRecDepth 100000 in
theorem fieldsPut_ok (a0 a1 a2 a3 a4 a5 a6 a7 a8 a9 a10 a11 a12 a13 a14 : Int) (w : World) (hR : readB [a0, a1, a2, a3, a4, a5, a6, a7, a8, a9, a10, a11, a12, a13, a14] = true)
    (hT : tkB a0 a1 a2 a3 a4 a5 a6 a7 a8 a9 a10 = true) (d1 : decide (a11 < 0) = false) (d2 : decide (100 ≤ a11) = false) (d3 : a12 = 0) (d3' : a13 = 0) (d4 : decide (a14 < 1) = false) (d5 : decide (3 < a14) = false) :
    Calls Tryz.prog 139 #[.agg #[.int .i64 a0, .int .i64 a1, .int .i64 a2, .int .i64 a3, .int .i64 a4, .int .i64 a5, .int .i64 a6, .int .i64 a7, .int .i64 a8, .int .i64 a9, .int .i64 a10, .int .i64 a11, .int .i64 a12, .int .i64 a13, .int .i64 a14]] w (FieldsRet (fpE [a0, a1, a2, a3, a4, a5, a6, a7, a8, a9, a10, a11, a12, a13, a14]) w) := by
  obtain ⟨i0, hi, hz0, hz1, hz2⟩ := info_parts infoFd
  subst d3 d3'
  have EF := Lib.hid (show fpE [a0, a1, a2, a3, a4, a5, a6, a7, a8, a9, a10, a11, 0, 0, a14] = fpGo [a0, a1, a2, a3, a4, a5, a6, a7, a8, a9, a10, a11, 0, 0, a14] 13 [] by unfold fpE; rw [if_pos hR])
  have HN := Lib.hid (nums_bound hR)
  clear hR
  obtain ⟨rv, hrv⟩ : ∃ rv, fpE [a0, a1, a2, a3, a4, a5, a6, a7, a8, a9, a10, a11, 0, 0, a14] = rv := ⟨_, rfl⟩
  rw [hrv] at EF ⊢
  clear hrv
  go_enter Tryz.func139, Tryz.ntmps139
  go_wp2_with (first | (go_at_call 85; (with_reducible refine (tk_any a0 a1 a2 a3 a4 a5 a6 a7 a8 a9 a10 _).mono ?_); rintro e w1 ⟨he, hb1⟩; rw [hT] at he; subst he; obtain ⟨hcb1, hfb1⟩ := bcell hb1; have hlt1 : w.heap.size < w1.heap.size := (by have := hb1.size; simp at this; omega); have HB1 := Lib.hid (bT (bel1 w _) hb1); clear hb1))
  obtain ⟨c, hcl⟩ : ∃ c : List Int, [a0, a1, a2, a3, a4, a5, a6, a7, a8, a9, a10, a11, 0, 0, a14] = c := ⟨_, rfl⟩
  obtain ⟨W4, hW4⟩ : ∃ W4, w1.alloc (.cells #[.int .i64 a0, .int .i64 a1, .int .i64 a2, .int .i64 a3, .int .i64 a4, .int .i64 a5, .int .i64 a6, .int .i64 a7, .int .i64 a8, .int .i64 a9, .int .i64 a10, .int .i64 a11, .int .i64 0, .int .i64 0, .int .i64 a14] 158) = W4 := ⟨_, rfl⟩
  have h4c : ∀ o, o < 15 → W4.cell? ⟨w1.heap.size, o, none⟩ = some (.int .i64 (c.getD o 0)) := by
    intro o ho
    rw [← hW4, cell_of_row _ w1.heap.size o _ _ (0, 0) (heap_alloc_new w1 _), ← hcl]
    have : o = 0 ∨ o = 1 ∨ o = 2 ∨ o = 3 ∨ o = 4 ∨ o = 5 ∨ o = 6 ∨ o = 7 ∨ o = 8 ∨ o = 9 ∨ o = 10 ∨ o = 11 ∨ o = 12 ∨ o = 13 ∨ o = 14 := by omega
    rcases this with rfl | rfl | rfl | rfl | rfl | rfl | rfl | rfl | rfl | rfl | rfl | rfl | rfl | rfl | rfl <;> rfl
  have hck : ∀ W, W = w.alloc (.cells #[.int .i64 a0, .int .i64 a1, .int .i64 a2, .int .i64 a3, .int .i64 a4, .int .i64 a5, .int .i64 a6, .int .i64 a7, .int .i64 a8, .int .i64 a9, .int .i64 a10, .int .i64 a11, .int .i64 0, .int .i64 0, .int .i64 a14] 28) → W.cell? ⟨w.heap.size, 1, none⟩ = some (.int .i64 (c.getD 1 0)) ∧ W.cell? ⟨w.heap.size, 14, none⟩ = some (.int .i64 (c.getD 14 0)) := by
    intro W hW
    subst hW
    rw [← hcl]
    exact ⟨cell_of_row _ _ 1 _ _ _ (heap_alloc_new w _), cell_of_row _ _ 14 _ _ _ (heap_alloc_new w _)⟩
  obtain ⟨hk1, hk14⟩ := hck _ rfl
  have hk1 : W4.cell? ⟨w.heap.size, 1, none⟩ = some (.int .i64 (c.getD 1 0)) := by
    rw [← hW4]; exact keep_cell (bel1 _ _) ((hcb1 _ _ (by simp)).trans hk1)
  have hk14 : W4.cell? ⟨w.heap.size, 14, none⟩ = some (.int .i64 (c.getD 14 0)) := by
    rw [← hW4]; exact keep_cell (bel1 _ _) ((hcb1 _ _ (by simp)).trans hk14)
  have HB4 : Hid (Below w.heap.size w W4) := by rw [← hW4]; exact Lib.hid (bT HB1.out (bel1 _ _))
  obtain ⟨g, hg⟩ : ∃ g, w1.heap.size = g := ⟨_, rfl⟩
  rw [hg] at h4c
  rw [hW4, hg]
  rw [hcl] at EF HN
  clear hT d1 d2 d4 d5 hcb1 hfb1 hlt1 HB1 hW4 hg hck hcl
  clear w1
  go_loopw [6, 7, 8, 9, 10, 11, 12] (fun out tg _ _ _ _ _ wr => ∃ (m : Nat) (L : List Fv), m ≤ 13 ∧ tg = .int .i64 (14 - (m : Int)) ∧ OwnF W4.heap.size wr out L ∧ L.length + m ≤ 13 ∧ Hid (fpGo c m (L.map (·.f)) = fpGo c 13 []) ∧ Below W4.heap.size W4 wr) (fun _ tg _ _ _ _ _ _ => (14 - intOf tg).toNat)
  case atStart => exact ⟨13, [], Nat.le_refl _, rfl, OwnF.nil _ _, by simp, Lib.hid (by simp), Below.refl _ _⟩
  case round =>
    obtain ⟨m, L, hm, rfl, hO, hLm, hq, hbW⟩ := hrel
    cases m with
    | zero =>
      have HE := Lib.hid (EF.out.trans (hq.out.symm.trans (show fpGo c 0 (L.map (·.f)) = (L.map (·.f), 0) from rfl)))
      have HO := Lib.hid hO
      have HB := Lib.hid (bT HB4.out hbW)
      clear hO hq EF
      go_wp2
      go_ret2
      exact ⟨_, L, by rw [HE.out] <;> rfl, by rw [HE.out], HO.out.mono HB4.out.size, HB.out⟩
    | succ m =>
      obtain ⟨t, ht⟩ : ∃ t : Int, 13 - (m : Int) = t := ⟨_, rfl⟩
      have ht1 : 1 ≤ t := by omega
      have ht2 : t ≤ 13 := by omega
      have hpl := plc_lt t ht1 ht2
      have hx := HN.out t ht1 ht2
      have hcx := keep_cell hbW (h4c (plc t) hpl)
      have hk1' := keep_cell hbW hk1
      have hk14' := keep_cell hbW hk14
      have e := hq.out
      rw [fpGo_succ, ht] at e
      rw [show (14 : Int) - ((m + 1 : Nat) : Int) = t by omega]
      have hm12 : m = 1 ↔ t = 12 := by omega
      generalize c.getD (plc t) 0 = x at *
      generalize c.getD 1 0 = kd at *
      generalize c.getD 14 0 = vr at *
      have HE := Lib.hid e
      have HT := Lib.hid ht
      have HM := Lib.hid hm12
      have HB := Lib.hid (bT HB4.out hbW)
      have HBW := Lib.hid hbW
      clear e ht hq hbW hk1 hk14 h4c hm12
      have hle : t ≤ 13 := ht2
      by_cases g1 : x = 0
      · subst g1
        have e := HE.out
        rw [if_pos rfl] at e
        have HX := Lib.hid e
        clear HE e
        go_wp2_with (go_at_call 150; (with_reducible refine (fplace_any _ _ _ ht1 ht2).mono ?_); rintro e w2 ⟨rfl, hb2⟩; have hcx2 := keep_cell hb2 hcx; have HO2 := Lib.hid (hO.below hb2); have HB2 := Lib.hid hb2)
        exact ⟨⟨m, L, by omega, by rw [← HT.out]; congr 1; omega, HO2.out, by omega, HX, bT HBW.out HB2.out⟩, by simp [intOf]; omega⟩
      have hx0 : (x == 0) = false := by simpa using g1
      have e := HE.out
      rw [if_neg g1] at e
      have HE := Lib.hid e
      clear e
      by_cases g2 : t = 12 ∧ kd ≠ 4
      · have e := HE.out
        rw [if_pos ⟨HM.out.2 g2.1, g2.2⟩] at e
        have HX := Lib.hid e
        have hkd : (kd != 4) = true := by simpa using g2.2
        have htb : (t == 12) = true := by simpa using g2.1
        clear HE e g2
        go_wp2_with (go_at_call 150; (with_reducible refine (fplace_any _ _ _ ht1 ht2).mono ?_); rintro e w2 ⟨rfl, hb2⟩; have hcx2 := keep_cell hb2 hcx; have hk2 := keep_cell hb2 hk1'; have HO2 := Lib.hid (hO.below hb2); have HB2 := Lib.hid hb2; clear hb2 hO hcx hk1' hk14')
        exact ⟨⟨m, L, by omega, by rw [← HT.out]; congr 1; omega, HO2.out, by omega, HX, bT HBW.out HB2.out⟩, by simp [intOf]; omega⟩
      have e := HE.out
      rw [if_neg (fun h => g2 ⟨HM.out.1 h.1, h.2⟩)] at e
      have HE := Lib.hid e
      clear e
      have hkt : (t == 12) = false ∨ ((t == 12) = true ∧ (kd != 4) = false) := by
        by_cases h : t = 12
        · right; exact ⟨by simpa using h, by simp; exact Classical.not_not.1 fun hk => g2 ⟨h, hk⟩⟩
        · left; simpa using h
      clear g2
      rcases hkt with htb | ⟨htb, hkd⟩
      · by_cases g3 : vr < nameE t
        · have e := HE.out
          rw [if_pos g3] at e
          have HX := Lib.hid (EF.out.trans e.symm)
          clear HE e EF
          go_wp2_with (first | (go_at_call 150; (with_reducible refine (fplace_any _ _ _ ht1 ht2).mono ?_); rintro e w2 ⟨rfl, hb2⟩; have hcx2 := keep_cell hb2 hcx; have hk2 := keep_cell hb2 hk1'; have hv2 := keep_cell hb2 hk14'; have HO2 := Lib.hid (hO.below hb2); have HB2 := Lib.hid (bT HBW.out hb2); have hzw := (bT HBW.out hb2).size; clear hb2 hO hcx hk1' hk14') | (go_at_call 152; (with_reducible refine (name_any _ _).mono ?_); rintro e w3 ⟨rfl, rfl⟩))
          go_ret2
          exact ⟨_, [], by rw [HX.out] <;> rfl, by rw [HX.out] <;> rfl, OwnF.nil _ _, bT HB4.out HB2.out⟩
        · have e := HE.out
          rw [if_neg g3] at e
          have HX := Lib.hid e
          have hx9 : x ≤ 9223372036854775807 := by omega
          clear HE e
          go_wp2_with (first | (go_at_call 150; (with_reducible refine (fplace_any _ _ _ ht1 ht2).mono ?_); rintro e w2 ⟨rfl, hb2⟩; have hcx2 := keep_cell hb2 hcx; have hk2 := keep_cell hb2 hk1'; have hv2 := keep_cell hb2 hk14'; have HO2 := Lib.hid (hO.below hb2); have HB2 := Lib.hid (bT HBW.out hb2); have hzw := (bT HBW.out hb2).size; clear hb2 hO hcx hk1' hk14') | (go_at_call 152; (with_reducible refine (name_any _ _).mono ?_); rintro e w3 ⟨rfl, rfl⟩) | (go_at_call 203; (with_reducible refine (number_any _ _ hx.1 hx9).mono ?_); rintro e w4 ⟨⟨B, cB, rfl, hBl, hBc, hBr, hBf⟩, hb4⟩; have HO4 := HO2.out.below hb4; have HBN := Lib.hid (bT HB2.out hb4); have hz4 := (bT HB2.out hb4).size; have hz3 := hb4.size) | (at_builtin; go_loud (refine wpList_append_own_at _ rfl _ _ 96 rfl W4.heap.size 135 i0 (.agg #[.int .i64 0, .slice none 0 0]) 2 32 Tryz.underlying96 hi hz0 hz1 hz2 rfl (by decide) _ L.length (fvCells L) rfl (HO4.below (bel1 _ _)).1 ⟨w4.heap.size, 0, none⟩ 1 1 [.int .i64 t, .slice B (numL x).length cB] rfl rfl (fcells_new _ _ _) ?_ ?_ ?_ ?_ ?_); (focus (go_loud (simp [Value.oneCell']))); (focus (go_loud (exact maxLen_ge (by omega)))); (focus (go_loud (omega))); (focus (simp; omega)); intro v5 w5 ho5 hg5 _ ha5; have HL5 := Lib.hid (OwnF.app (x := ⟨⟨t, numL x⟩, B, cB⟩) (HO4.below (bel1 _ _)) ⟨hBl, hBc, hBr.below (bel1 _ _), numL_byte _, .inr fun a ha => ⟨Nat.le_trans hzw (hBf a ha), fun h => absurd ((HO2.out.1.lt _ h.symm).2) (Nat.not_lt.2 (hBf a ha))⟩⟩ ho5 hg5 ha5); have HB5 := Lib.hid (bG (bA HBN.out _) hg5 (own_ge HO4.1))))
          exact ⟨⟨m, L ++ [⟨⟨t, numL x⟩, B, cB⟩], by omega, by rw [← HT.out]; congr 1; omega, HL5.out, by rw [List.length_append]; simp; omega, Lib.hid (by have h := HX.out; rw [← h, List.map_append]; rfl), HB5.out⟩, by simp [intOf]; omega⟩
      · by_cases g3 : vr < nameE t
        · have e := HE.out
          rw [if_pos g3] at e
          have HX := Lib.hid (EF.out.trans e.symm)
          clear HE e EF
          go_wp2_with (first | (go_at_call 150; (with_reducible refine (fplace_any _ _ _ ht1 ht2).mono ?_); rintro e w2 ⟨rfl, hb2⟩; have hcx2 := keep_cell hb2 hcx; have hk2 := keep_cell hb2 hk1'; have hv2 := keep_cell hb2 hk14'; have HO2 := Lib.hid (hO.below hb2); have HB2 := Lib.hid (bT HBW.out hb2); have hzw := (bT HBW.out hb2).size; clear hb2 hO hcx hk1' hk14') | (go_at_call 152; (with_reducible refine (name_any _ _).mono ?_); rintro e w3 ⟨rfl, rfl⟩))
          go_ret2
          exact ⟨_, [], by rw [HX.out] <;> rfl, by rw [HX.out] <;> rfl, OwnF.nil _ _, bT HB4.out HB2.out⟩
        · have e := HE.out
          rw [if_neg g3] at e
          have HX := Lib.hid e
          have hx9 : x ≤ 9223372036854775807 := by omega
          clear HE e
          go_wp2_with (first | (go_at_call 150; (with_reducible refine (fplace_any _ _ _ ht1 ht2).mono ?_); rintro e w2 ⟨rfl, hb2⟩; have hcx2 := keep_cell hb2 hcx; have hk2 := keep_cell hb2 hk1'; have hv2 := keep_cell hb2 hk14'; have HO2 := Lib.hid (hO.below hb2); have HB2 := Lib.hid (bT HBW.out hb2); have hzw := (bT HBW.out hb2).size; clear hb2 hO hcx hk1' hk14') | (go_at_call 152; (with_reducible refine (name_any _ _).mono ?_); rintro e w3 ⟨rfl, rfl⟩) | (go_at_call 203; (with_reducible refine (number_any _ _ hx.1 hx9).mono ?_); rintro e w4 ⟨⟨B, cB, rfl, hBl, hBc, hBr, hBf⟩, hb4⟩; have HO4 := HO2.out.below hb4; have HBN := Lib.hid (bT HB2.out hb4); have hz4 := (bT HB2.out hb4).size; have hz3 := hb4.size) | (at_builtin; go_loud (refine wpList_append_own_at _ rfl _ _ 96 rfl W4.heap.size 135 i0 (.agg #[.int .i64 0, .slice none 0 0]) 2 32 Tryz.underlying96 hi hz0 hz1 hz2 rfl (by decide) _ L.length (fvCells L) rfl (HO4.below (bel1 _ _)).1 ⟨w4.heap.size, 0, none⟩ 1 1 [.int .i64 t, .slice B (numL x).length cB] rfl rfl (fcells_new _ _ _) ?_ ?_ ?_ ?_ ?_); (focus (go_loud (simp [Value.oneCell']))); (focus (go_loud (exact maxLen_ge (by omega)))); (focus (go_loud (omega))); (focus (simp; omega)); intro v5 w5 ho5 hg5 _ ha5; have HL5 := Lib.hid (OwnF.app (x := ⟨⟨t, numL x⟩, B, cB⟩) (HO4.below (bel1 _ _)) ⟨hBl, hBc, hBr.below (bel1 _ _), numL_byte _, .inr fun a ha => ⟨Nat.le_trans hzw (hBf a ha), fun h => absurd ((HO2.out.1.lt _ h.symm).2) (Nat.not_lt.2 (hBf a ha))⟩⟩ ho5 hg5 ha5); have HB5 := Lib.hid (bG (bA HBN.out _) hg5 (own_ge HO4.1))))
          exact ⟨⟨m, L ++ [⟨⟨t, numL x⟩, B, cB⟩], by omega, by rw [← HT.out]; congr 1; omega, HL5.out, by rw [List.length_append]; simp; omega, Lib.hid (by have h := HX.out; rw [← h, List.map_append]; rfl), HB5.out⟩, by simp [intOf]; omega⟩

theorem fieldsPut_any (a0 a1 a2 a3 a4 a5 a6 a7 a8 a9 a10 a11 a12 a13 a14 : Int) (w : World) :
    Calls Tryz.prog 139 #[.agg #[.int .i64 a0, .int .i64 a1, .int .i64 a2, .int .i64 a3, .int .i64 a4, .int .i64 a5, .int .i64 a6, .int .i64 a7, .int .i64 a8, .int .i64 a9, .int .i64 a10, .int .i64 a11, .int .i64 a12, .int .i64 a13, .int .i64 a14]] w (FieldsRet (fpE [a0, a1, a2, a3, a4, a5, a6, a7, a8, a9, a10, a11, a12, a13, a14]) w) := by
  have hno : readB [a0, a1, a2, a3, a4, a5, a6, a7, a8, a9, a10, a11, a12, a13, a14] = false → Hid (fpE [a0, a1, a2, a3, a4, a5, a6, a7, a8, a9, a10, a11, a12, a13, a14] = ([], 1)) := fun h => Lib.hid (by unfold fpE; rw [h]; rfl)
  have hrd : readB [a0, a1, a2, a3, a4, a5, a6, a7, a8, a9, a10, a11, a12, a13, a14] = (tkB a0 a1 a2 a3 a4 a5 a6 a7 a8 a9 a10 && (decide (0 ≤ a11) && decide (a11 < 100)) && (decide (a12 = 0) && decide (a13 = 0)) && (decide (1 ≤ a14) && decide (a14 ≤ 3))) := rfl
  cases hT : tkB a0 a1 a2 a3 a4 a5 a6 a7 a8 a9 a10 with
  | false => exact fieldsPut_b1 a0 a1 a2 a3 a4 a5 a6 a7 a8 a9 a10 a11 a12 a13 a14 w (hno (by rw [hrd, hT]; rfl)) hT
  | true =>
    by_cases h1 : a11 < 0
    · exact fieldsPut_b2 a0 a1 a2 a3 a4 a5 a6 a7 a8 a9 a10 a11 a12 a13 a14 w (hno (by rw [hrd, decide_eq_false (p := 0 ≤ a11) (by omega)]; simp)) hT (by simpa using h1)
    by_cases h2 : 100 ≤ a11
    · exact fieldsPut_b3 a0 a1 a2 a3 a4 a5 a6 a7 a8 a9 a10 a11 a12 a13 a14 w (hno (by rw [hrd, decide_eq_false (p := a11 < 100) (by omega)]; simp)) hT (by simpa using h1) (by simpa using h2)
    by_cases h3 : a12 = 0
    rotate_left
    · exact fieldsPut_b4 a0 a1 a2 a3 a4 a5 a6 a7 a8 a9 a10 a11 a12 a13 a14 w (hno (by rw [hrd, decide_eq_false h3]; simp)) hT (by simpa using h1) (by simpa using h2) (by simpa using h3)
    by_cases h3b : a13 = 0
    rotate_left
    · exact fieldsPut_b5 a0 a1 a2 a3 a4 a5 a6 a7 a8 a9 a10 a11 a12 a13 a14 w (hno (by rw [hrd, decide_eq_false h3b]; simp)) hT (by simpa using h1) (by simpa using h2) (by simpa using h3) (by simpa using h3b)
    by_cases h4 : a14 < 1
    · exact fieldsPut_b6 a0 a1 a2 a3 a4 a5 a6 a7 a8 a9 a10 a11 a12 a13 a14 w (hno (by rw [hrd, decide_eq_false (p := 1 ≤ a14) (by omega)]; simp)) hT (by simpa using h1) (by simpa using h2) (by simpa using h3) (by simpa using h3b) (by simpa using h4)
    by_cases h5 : 3 < a14
    · exact fieldsPut_b7 a0 a1 a2 a3 a4 a5 a6 a7 a8 a9 a10 a11 a12 a13 a14 w (hno (by rw [hrd, decide_eq_false (p := a14 ≤ 3) (by omega)]; simp)) hT (by simpa using h1) (by simpa using h2) (by simpa using h3) (by simpa using h3b) (by simpa using h4) (by simpa using h5)
    exact fieldsPut_ok a0 a1 a2 a3 a4 a5 a6 a7 a8 a9 a10 a11 a12 a13 a14 w (by rw [hrd, hT, decide_eq_true (p := 0 ≤ a11) (by omega), decide_eq_true (p := a11 < 100) (by omega), decide_eq_true h3, decide_eq_true h3b, decide_eq_true (p := 1 ≤ a14) (by omega), decide_eq_true (p := a14 ≤ 3) (by omega)]; rfl) hT (by simpa using h1) (by simpa using h2) h3 h3b (by simpa using h4) (by simpa using h5)
end Go.Proofs.YtnbghgenaolfgaaGreat

namespace Go.Proofs.YtnbghgenaolfgaaGreat
open Go.RowKit
set_option linter.unusedVariables false
set_option maxRecDepth 100000
set_option linter.unusedSimpArgs false

/-- What a step returns: an error's number; where it is 0, what follows holds. -/
def StepRet (Q : World → Prop) (X : Int → World → Prop) (e : Ending) (w' : World) : Prop := ∃ z : Int, e = .returned (.int .i64 z) ∧ (z = 0 → Q w') ∧ (z ≠ 0 → X z w')
set_option maxHeartbeats 4000000 in
theorem steps_any (G n1 n2 n3 : Nat) (c1 c2 c3 : Array Value) (P : Nat → World → Prop) (X : Int → World → Prop) (w : World) (h0 : P 0 w)
    (hG : ∀ k W, P k W → W.cell? ⟨G, 0, none⟩ = some (.func (.func n1) #[] c1) ∧ W.cell? ⟨G, 1, none⟩ = some (.func (.func n2) #[] c2) ∧ W.cell? ⟨G, 2, none⟩ = some (.func (.func n3) #[] c3))
    (e1 : ∀ W, Sem.run Tryz.prog (callFunc n1 c1) W = .ok (.enter n1 c1) W) (e2 : ∀ W, Sem.run Tryz.prog (callFunc n2 c2) W = .ok (.enter n2 c2) W) (e3 : ∀ W, Sem.run Tryz.prog (callFunc n3 c3) W = .ok (.enter n3 c3) W)
    (h1 : ∀ W, P 0 W → Calls Tryz.prog n1 c1 W (StepRet (P 1) X)) (h2 : ∀ W, P 1 W → Calls Tryz.prog n2 c2 W (StepRet (P 2) X)) (h3 : ∀ W, P 2 W → Calls Tryz.prog n3 c3 W (StepRet (P 3) X)) :
    Calls Tryz.prog 78 #[.slice (some ⟨G, 0, none⟩) 3 3] w (StepRet (P 3) X) := by
  go_enter Tryz.func78, Tryz.ntmps78
  go_wp2
  go_loopw [4, 5, 8] (fun _ _ i wr => ∃ k : Nat, k ≤ 3 ∧ i = .int .i64 k ∧ P k wr) (fun _ _ i _ => 3 - (intOf i).toNat)
  case atStart => exact ⟨0, by omega, rfl, h0⟩
  case round =>
    obtain ⟨k, hk, rfl, hP⟩ := hrel
    obtain ⟨g0, g1, g2⟩ := hG k wr hP
    have : k = 0 ∨ k = 1 ∨ k = 2 ∨ k = 3 := by omega
    rcases this with rfl | rfl | rfl | rfl
    · have D := h1 _ hP
      go_wp2_with ((with_reducible refine D.mono ?_); rintro e W3 ⟨z, rfl, hz0, hz1⟩; have HZ0 := Lib.hid hz0; have HZ1 := Lib.hid hz1; clear hz0 hz1)
      · rename_i hz
        have hz' : z ≠ 0 := by simpa using hz
        go_ret
        exact ⟨z, rfl, fun h => absurd h hz', fun h => HZ1.out h⟩
      · rename_i hz
        exact ⟨⟨1, by omega, rfl, HZ0.out (by simpa using hz)⟩, by simp [intOf]⟩
    · have D := h2 _ hP
      go_wp2_with ((with_reducible refine D.mono ?_); rintro e W3 ⟨z, rfl, hz0, hz1⟩; have HZ0 := Lib.hid hz0; have HZ1 := Lib.hid hz1; clear hz0 hz1)
      · rename_i hz
        have hz' : z ≠ 0 := by simpa using hz
        go_ret
        exact ⟨z, rfl, fun h => absurd h hz', fun h => HZ1.out h⟩
      · rename_i hz
        exact ⟨⟨2, by omega, rfl, HZ0.out (by simpa using hz)⟩, by simp [intOf]⟩
    · have D := h3 _ hP
      go_wp2_with ((with_reducible refine D.mono ?_); rintro e W3 ⟨z, rfl, hz0, hz1⟩; have HZ0 := Lib.hid hz0; have HZ1 := Lib.hid hz1; clear hz0 hz1)
      · rename_i hz
        have hz' : z ≠ 0 := by simpa using hz
        go_ret
        exact ⟨z, rfl, fun h => absurd h hz', fun h => HZ1.out h⟩
      · rename_i hz
        exact ⟨⟨3, by omega, rfl, HZ0.out (by simpa using hz)⟩, by simp [intOf]⟩
    · go_wp2
      go_ret
      exact ⟨0, rfl, fun _ => hP, fun h => absurd rfl h⟩
end Go.Proofs.YtnbghgenaolfgaaGreat

namespace Go.Proofs.YtnbghgenaolfgaaGreat
open Go.RowKit
set_option linter.unusedVariables false
set_option maxRecDepth 100000
set_option linter.unusedSimpArgs false

/-- The five variables that the steps share, each in a block of its own. -/
def EncM (L R F K B G : Nat) (gcs : Array Value) (lv : Value) (rcs : Array Value) (fv : Value) (kcs : Array Value) (bvv : Value) (W : World) : Prop :=
  Boxed W L 22 lv ∧ W.heap[R]? = some (.cells rcs 28 (0, 0)) ∧ Boxed W F 96 fv ∧ W.heap[K]? = some (.cells kcs 56 (0, 0)) ∧ Boxed W B 30 bvv ∧ W.heap[G]? = some (.cells gcs 101 (0, 0))
theorem EncM.below {L R F K B G : Nat} {gcs : Array Value} {lv fv bvv : Value} {rcs kcs : Array Value} {W W' : World} (h : EncM L R F K B G gcs lv rcs fv kcs bvv W) (hb : Below W.heap.size W W') : EncM L R F K B G gcs lv rcs fv kcs bvv W' := by
  obtain ⟨h1, h2, h3, h4, h5, h6⟩ := h
  have K : ∀ {b : Nat} {o : Obj}, W.heap[b]? = some o → W'.heap[b]? = some o := fun h => (hb.block _ (Array.getElem?_eq_some_iff.1 h).1).trans h
  exact ⟨K h1, K h2, K h3, K h4, K h5, K h6⟩
theorem EncM.setF {L R F K B G : Nat} {gcs : Array Value} {lv fv bvv : Value} {rcs kcs : Array Value} {W : World} (h : EncM L R F K B G gcs lv rcs fv kcs bvv W) (ho : L < R ∧ R < F ∧ F < K ∧ K < B ∧ B < G) (v : Value) : EncM L R F K B G gcs lv rcs v kcs bvv (W.setCell ⟨F, 0, none⟩ v) := by
  obtain ⟨h1, h2, h3, h4, h5, h6⟩ := h
  have K : ∀ {b : Nat}, b ≠ F → (W.setCell ⟨F, 0, none⟩ v).heap[b]? = W.heap[b]? := fun h => Below.heap_setCell W _ v _ h
  exact ⟨(K (by omega)).trans h1, (K (by omega)).trans h2, h3.set v, (K (by omega)).trans h4, (K (by omega)).trans h5, (K (by omega)).trans h6⟩
theorem EncM.setB {L R F K B G : Nat} {gcs : Array Value} {lv fv bvv : Value} {rcs kcs : Array Value} {W : World} (h : EncM L R F K B G gcs lv rcs fv kcs bvv W) (ho : L < R ∧ R < F ∧ F < K ∧ K < B ∧ B < G) (v : Value) : EncM L R F K B G gcs lv rcs fv kcs v (W.setCell ⟨B, 0, none⟩ v) := by
  obtain ⟨h1, h2, h3, h4, h5, h6⟩ := h
  have K : ∀ {b : Nat}, b ≠ B → (W.setCell ⟨B, 0, none⟩ v).heap[b]? = W.heap[b]? := fun h => Below.heap_setCell W _ v _ h
  exact ⟨(K (by omega)).trans h1, (K (by omega)).trans h2, (K (by omega)).trans h3, (K (by omega)).trans h4, h5.set v, (K (by omega)).trans h6⟩
theorem infoR : (Tryz.prog.info? 28).map (·.size) = some 15 := by kernel_rfl

set_option maxHeartbeats 8000000 in
set_option maxRecDepth 100000 in
theorem enc1_any (L R F K B G : Nat) (gcs : Array Value) (ho : L < R ∧ R < F ∧ F < K ∧ K < B ∧ B < G) (A : Option Addr) (c : Nat) (ks : List Ky) (a0 a1 a2 a3 a4 a5 a6 a7 a8 a9 a10 a11 a12 a13 a14 : Int) (kcs : Array Value) (bvv : Value) (w0 W : World) (hr : RdK w0 A ks) (hl : ks.length ≤ 9223372036854775807) (hb0 : Below w0.heap.size w0 W) (hL0 : w0.heap.size ≤ L)
    (hM : EncM L R F K B G gcs (.slice A ks.length c) #[.int .i64 a0, .int .i64 a1, .int .i64 a2, .int .i64 a3, .int .i64 a4, .int .i64 a5, .int .i64 a6, .int .i64 a7, .int .i64 a8, .int .i64 a9, .int .i64 a10, .int .i64 a11, .int .i64 a12, .int .i64 a13, .int .i64 a14] (.slice none 0 0) kcs bvv W) :
    Calls Tryz.prog 138 #[.pointer (some ⟨L, 0, none⟩), .pointer (some ⟨R, 0, none⟩), .pointer (some ⟨F, 0, none⟩)] W fun e W' => ∃ (v : Value) (Lf : List Fv), e = .returned (.int .i64 (encF ks [a0, a1, a2, a3, a4, a5, a6, a7, a8, a9, a10, a11, a12, a13, a14]).2) ∧ Lf.map (·.f) = (encF ks [a0, a1, a2, a3, a4, a5, a6, a7, a8, a9, a10, a11, a12, a13, a14]).1 ∧
      EncM L R F K B G gcs (.slice A ks.length c) #[.int .i64 a0, .int .i64 a1, .int .i64 a2, .int .i64 a3, .int .i64 a4, .int .i64 a5, .int .i64 a6, .int .i64 a7, .int .i64 a8, .int .i64 a9, .int .i64 a10, .int .i64 a11, .int .i64 a12, .int .i64 a13, .int .i64 a14] v kcs bvv W' ∧ OwnF (B + 1) W' v Lf ∧ Below w0.heap.size w0 W' := by
  have hI := ringIs_any A c ks W (hr.below hb0 (Nat.le_refl _)) hl
  have hc1 := hM.1.cell
  have HM := Lib.hid hM
  cases hz : ringB ks with
  | false =>
    have E := Lib.hid (show encF ks [a0, a1, a2, a3, a4, a5, a6, a7, a8, a9, a10, a11, a12, a13, a14] = ([], 1) by unfold encF; rw [hz]; rfl)
    rw [hz] at hI
    clear hM
    go_enter Tryz.func138, Tryz.ntmps138
    go_wp2_with (go_at_call 37; (with_reducible refine hI.mono ?_); rintro e w1 ⟨rfl, hb1⟩)
    go_ret
    exact ⟨_, [], by rw [E.out] <;> rfl, by rw [E.out] <;> rfl, HM.out.below hb1, OwnF.nil _ _, bT hb0 hb1⟩
  | true =>
    have E := Lib.hid (show encF ks [a0, a1, a2, a3, a4, a5, a6, a7, a8, a9, a10, a11, a12, a13, a14] = fpE [a0, a1, a2, a3, a4, a5, a6, a7, a8, a9, a10, a11, a12, a13, a14] by unfold encF; rw [hz]; rfl)
    rw [hz] at hI
    clear hM
    obtain ⟨rv, hrv⟩ : ∃ rv, fpE [a0, a1, a2, a3, a4, a5, a6, a7, a8, a9, a10, a11, a12, a13, a14] = rv := ⟨_, rfl⟩
    have hP := fun W => fieldsPut_any a0 a1 a2 a3 a4 a5 a6 a7 a8 a9 a10 a11 a12 a13 a14 W
    rw [hrv] at hP E
    clear hrv
    go_enter Tryz.func138, Tryz.ntmps138
    go_wp2_with (first | (go_at_call 37; (with_reducible refine hI.mono ?_); rintro e w1 ⟨rfl, hb1⟩; have hM1 := HM.out.below hb1; have hR1 := hM1.2.1; have HB1 := Lib.hid (bT hb0 hb1); have HM1 := Lib.hid hM1; clear hM1 hb1) | (refine wpList_load_row rfl 28 (.tmp 1) rfl R rfl 28 #[.int .i64 a0, .int .i64 a1, .int .i64 a2, .int .i64 a3, .int .i64 a4, .int .i64 a5, .int .i64 a6, .int .i64 a7, .int .i64 a8, .int .i64 a9, .int .i64 a10, .int .i64 a11, .int .i64 a12, .int .i64 a13, .int .i64 a14] (0, 0) _ hR1 Tryz.underlying28 rfl ?_ ?_; (focus (exact infoR))) | (go_at_call 139; (with_reducible refine (hP _).mono ?_); rintro e w2 ⟨v, Lf, rfl, hLf, hO, hb2⟩; obtain ⟨Av, cv, rfl, _, _, _⟩ := hO.rdF; have hM2 := HM1.out.below hb2; have hcF := hM2.2.2.1.cell; have hfF := hM2.2.2.1.frozen; have HM2 := Lib.hid hM2; have HB2 := Lib.hid (bT HB1.out hb2); have HO := Lib.hid (hO.mono (Nat.succ_le_of_lt HM1.out.2.2.2.2.1.lt)); clear hM2 hO hb2))
    go_ret
    exact ⟨_, Lf, by rw [E.out] <;> rfl, by rw [E.out]; exact hLf, HM2.out.setF ho _, HO.out.set (by omega), HB2.out.setCell (p := ⟨F, 0, none⟩) (show w0.heap.size ≤ F by omega) _⟩
end Go.Proofs.YtnbghgenaolfgaaGreat

namespace Go.Proofs.YtnbghgenaolfgaaGreat
open Go.RowKit
set_option linter.unusedVariables false
set_option maxRecDepth 100000
set_option linter.unusedSimpArgs false

theorem OwnF.above {base : Nat} {w w' : World} {v : Value} {L : List Fv} (h : OwnF base w v L) (hs : w'.heap.size = w.heap.size) (K : ∀ b, base ≤ b → w'.heap[b]? = w.heap[b]?) : OwnF base w' v L := by
  obtain ⟨⟨h1, h2⟩, h3⟩ := h
  refine ⟨⟨h1, h2.imp id fun ⟨k, cap, cur, e1, e2, e3, e4⟩ => ⟨k, cap, cur, e1, e2, (K k e2).trans e3, e4⟩⟩, fun x hx => ?_⟩
  obtain ⟨k1, k2, k3, k4, k5⟩ := h3 x hx
  refine ⟨k1, k2, ?_, k4, k5⟩
  rcases k3 with k3 | ⟨ad, e, hlt, hc⟩
  · exact .inl k3
  · rcases k5 with k5 | k5
    · exact .inl k5
    · exact .inr ⟨ad, e, by rw [hs]; exact hlt, fun j hj => (World.cell?_of_block (K (ad.add j).block (by rw [add_block]; exact (k5 ad e).1))).trans (hc j hj)⟩
theorem EncM.setK {L R F K B G : Nat} {gcs : Array Value} {lv fv bvv : Value} {rcs kcs : Array Value} {W : World} (h : EncM L R F K B G gcs lv rcs fv kcs bvv W) (ho : L < R ∧ R < F ∧ F < K ∧ K < B ∧ B < G) (cs : Array Value) : EncM L R F K B G gcs lv rcs fv cs bvv (W.setRow K cs) := by
  obtain ⟨h1, h2, h3, h4, h5, h6⟩ := h
  have N : ∀ {b : Nat}, b ≠ K → (W.setRow K cs).heap[b]? = W.heap[b]? := fun h => setRow_other W K _ cs h
  exact ⟨(N (by omega)).trans h1, (N (by omega)).trans h2, (N (by omega)).trans h3, setRow_heap _ _ _ _ _ _ h4, (N (by omega)).trans h5, (N (by omega)).trans h6⟩
def keyC (r : Option Ky) (B : Option Addr) (c : Nat) : Array Value := match r with
  | some k => #[.int .i64 k.id, .slice B k.sec.length c, .int .i64 k.fr, .int .i64 k.til]
  | none => #[.int .i64 0, .slice none 0 0, .int .i64 0, .int .i64 0]
theorem keyV_eq (r : Option Ky) (B : Option Addr) (c : Nat) : keyV r B c = .agg (keyC r B c) := by cases r <;> rfl
theorem keyC_size (r : Option Ky) (B : Option Addr) (c : Nat) : (keyC r B c).size = 4 := by cases r <;> rfl
theorem keyC_one (r : Option Ky) (B : Option Addr) (c : Nat) : (keyC r B c).all (·.oneCell') = true := by cases r <;> simp [keyC, Value.oneCell']

set_option maxHeartbeats 8000000 in
set_option maxRecDepth 100000 in
theorem enc2_any (L R F K B G : Nat) (gcs : Array Value) (ho : L < R ∧ R < F ∧ F < K ∧ K < B ∧ B < G) (A : Option Addr) (c : Nat) (ks : List Ky) (a0 a1 a2 a3 a4 a5 a6 a7 a8 a9 a10 a11 a12 a13 a14 : Int) (fv : Value) (Lf : List Fv) (kcs : Array Value) (hk4 : kcs.size = 4) (bvv : Value) (w0 W : World) (hr : RdK w0 A ks) (hl : ks.length ≤ 9223372036854775807) (hb0 : Below w0.heap.size w0 W) (hL0 : w0.heap.size ≤ L)
    (hM : EncM L R F K B G gcs (.slice A ks.length c) #[.int .i64 a0, .int .i64 a1, .int .i64 a2, .int .i64 a3, .int .i64 a4, .int .i64 a5, .int .i64 a6, .int .i64 a7, .int .i64 a8, .int .i64 a9, .int .i64 a10, .int .i64 a11, .int .i64 a12, .int .i64 a13, .int .i64 a14] fv kcs bvv W) (hO : OwnF (B + 1) W fv Lf) :
    Calls Tryz.prog 140 #[.pointer (some ⟨L, 0, none⟩), .pointer (some ⟨R, 0, none⟩), .pointer (some ⟨K, 0, none⟩)] W fun e W' => ∃ (Bk : Option Addr) (ck : Nat), e = .returned (.int .i64 (findE ks a11).2) ∧
      (∀ k, (findE ks a11).1 = some k → k.sec.length ≤ ck ∧ ck ≤ 9223372036854775807 ∧ RdI w0 .u8 Bk k.sec ∧ (∀ x ∈ k.sec, 0 ≤ x ∧ x < 256) ∧ rightB k = true ∧ k.id = a11) ∧
      EncM L R F K B G gcs (.slice A ks.length c) #[.int .i64 a0, .int .i64 a1, .int .i64 a2, .int .i64 a3, .int .i64 a4, .int .i64 a5, .int .i64 a6, .int .i64 a7, .int .i64 a8, .int .i64 a9, .int .i64 a10, .int .i64 a11, .int .i64 a12, .int .i64 a13, .int .i64 a14] fv (keyC (findE ks a11).1 Bk ck) bvv W' ∧ OwnF (B + 1) W' fv Lf ∧ Below w0.heap.size w0 W' := by
  have hF := fun W hW => ringFind_any A c ks a11 w0 W hr hW hl
  have hc1 := hM.1.cell
  have hcR := cell_of_row W R 11 _ _ _ hM.2.1
  have HM := Lib.hid hM
  clear hM
  go_enter Tryz.func140, Tryz.ntmps140
  go_wp2_with (first | (go_at_call 32; (with_reducible refine (hF _ hb0).mono ?_); rintro e w2 ⟨⟨Bk, ck, rfl, hkk⟩, hb2⟩; rw [keyV_eq]; have hM2 := HM.out.below hb2; have hKr := hM2.2.2.2.1; have HM2 := Lib.hid hM2; have HO := Lib.hid (hO.below hb2); have HB2 := Lib.hid (bT hb0 hb2); have HK := Lib.hid hkk; clear hM2 hkk hb2) | (refine wpList_store_row rfl 56 _ _ rfl K (keyC (findE ks a11).1 Bk ck) rfl rfl 56 _ hKr ?_ ?_ ?_ ?_; (focus (rw [keyC_size]; exact infoK)); (focus (rw [keyC_size, hk4])); (focus (exact keyC_one _ _ _))))
  go_ret
  exact ⟨Bk, ck, rfl, HK.out, HM2.out.setK ho _, HO.out.above (setRow_size _ _ _) (fun b hb => setRow_other _ _ _ _ (by omega)), setRow_below HB2.out (by omega)⟩

set_option maxHeartbeats 8000000 in
set_option maxRecDepth 100000 in
theorem enc3_any (L R F K B G : Nat) (gcs : Array Value) (ho : L < R ∧ R < F ∧ F < K ∧ K < B ∧ B < G) (lv : Value) (rcs : Array Value) (fv : Value) (Lf : List Fv) (kcs : Array Value) (w0 W : World) (hb0 : Below w0.heap.size w0 W) (hL0 : w0.heap.size ≤ L)
    (hM : EncM L R F K B G gcs lv rcs fv kcs (.slice none 0 0) W) (hO : OwnF (B + 1) W fv Lf) :
    Calls Tryz.prog 141 #[.pointer (some ⟨F, 0, none⟩), .pointer (some ⟨B, 0, none⟩)] W fun e W' => ∃ (v : Value), e = .returned (.int .i64 (putE17 (Lf.map (·.f))).2) ∧
      EncM L R F K B G gcs lv rcs fv kcs v W' ∧ W'.ownsRow (B + 1) 5 1 v (putE17 (Lf.map (·.f))).1.length ((putE17 (Lf.map (·.f))).1.map (.int .u8)) ∧ Below w0.heap.size w0 W' := by
  obtain ⟨A, c, rfl, hlc, hc9, hR⟩ := hO.rdF
  have hP := fun W hW => tlvPut_any A c (Lf.map (·.f)) W hW (by rw [List.length_map]; omega)
  obtain ⟨rv, hrv⟩ : ∃ rv, putE17 (Lf.map (·.f)) = rv := ⟨_, rfl⟩
  rw [List.length_map, hrv] at hP
  rw [hrv]
  have hcF := hM.2.2.1.cell
  have hlB := hM.2.2.2.2.1.lt
  have HM := Lib.hid hM
  clear hM hrv
  go_enter Tryz.func141, Tryz.ntmps141
  go_wp2_with (go_at_call 142; (with_reducible refine (hP _ hR).mono ?_); rintro e w2 ⟨v, rfl, ho2, hb2⟩; obtain ⟨Av, cv, rfl, _, _⟩ := own_slice ho2; have hM2 := HM.out.below hb2; have hcB := hM2.2.2.2.2.1.cell; have hfB := hM2.2.2.2.2.1.frozen; have HM2 := Lib.hid hM2; have HB2 := Lib.hid (bT hb0 hb2); have HO2 := Lib.hid (own_base ho2 (Nat.succ_le_of_lt hlB)); clear hM2 hb2 ho2)
  go_ret
  refine ⟨_, rfl, HM2.out.setB ho _, ?_, HB2.out.setCell (p := ⟨B, 0, none⟩) (show w0.heap.size ≤ B by omega) _⟩
  obtain ⟨h1, h2⟩ := HO2.out
  exact ⟨h1, h2.imp id fun ⟨k, cap, cur, e1, e2, e3, e4⟩ => ⟨k, cap, cur, e1, e2, (Below.heap_setCell _ _ _ k (by show k ≠ B; omega)).trans e3, e4⟩⟩
end Go.Proofs.YtnbghgenaolfgaaGreat
