/- Layer 19: what barcode.open computes. Layer 19: what barcode.Version computes. No condition. -/
import Derived.Test.YtachkhjbckapoaaT28
import Derived.Test.YtachkhjbckapoaaT21
import Derived.Test.YtachkhjbckapoaaT42
import Derived.Deep.RegionHeld3
namespace Go.Proofs.Ytachkhjbckapoaa
open Go.RowKit
set_option linter.unusedVariables false
set_option maxRecDepth 100000
set_option linter.unusedSimpArgs false

def OpenRet (r : (List Int × List Int × List Fd) × Int) (w : World) (e : Ending) (w' : World) : Prop :=
  ∃ (A1 A2 A3 : Option Addr) (c1 c2 c3 : Nat), e = .returned (.tuple #[.slice A1 r.1.1.length c1, .slice A2 r.1.2.1.length c2, .slice A3 r.1.2.2.length c3, .int .i64 r.2]) ∧ RdI w' .u8 A1 r.1.1 ∧ RdI w' .u8 A2 r.1.2.1 ∧ RdF w' A3 r.1.2.2 ∧
    (∀ x ∈ r.1.1, 0 ≤ x ∧ x < 256) ∧ (∀ x ∈ r.1.2.1, 0 ≤ x ∧ x < 256) ∧ r.1.2.2.length ≤ 9223372036854775807 ∧ r.1.2.1.length ≤ 32 ∧ Below w.heap.size w w'
theorem open_nil {e1 : Int} {w w' : World} (hb : Below w.heap.size w w') : OpenRet (([], [], []), e1) w (.returned (.tuple #[.slice none 0 0, .slice none 0 0, .slice none 0 0, .int .i64 e1])) w' :=
  ⟨none, none, none, 0, 0, 0, rfl, RdI.nil _ _ _, RdI.nil _ _ _, .inl rfl, by simp, by simp, by simp, by simp, hb⟩
theorem results_tmp4 {fn : Func} {a b c d : Tmp} (h : fn.results = #[.tmp a, .tmp b, .tmp c, .tmp d]) (tmps : Array Value) (P : Program) (w : World) :
    (results fn tmps).run P w = .ok (.tuple #[tmps.getD a undef, tmps.getD b undef, tmps.getD c undef, tmps.getD d undef]) w := by
  simp only [results, h, Array.mapM_eq_mapM_toList, List.mapM_cons, List.mapM_nil]
  simp [Sem.run_bind]

set_option maxHeartbeats 4000000 in
theorem bcOpen_any (A : Option Addr) (c : Nat) (s : List Int) (w : World) (hr : RdI w .u8 A s) (hlc : s.length ≤ c) (hc9 : c ≤ 9223372036854775807) (hb : ∀ x ∈ s, 0 ≤ x ∧ x < 256) (hl : s.length ≤ 140737488351232) :
    Calls Try.prog 41 #[.slice A s.length c] w (OpenRet (openE s) w) := by
  have hG := fortyGet_any A c s w hr hlc hc9 hb hl
  obtain ⟨b, hbe⟩ : ∃ b, fortyGet s = b := ⟨_, rfl⟩
  obtain ⟨rv, hrv⟩ : ∃ rv, openE s = rv := ⟨_, rfl⟩
  have hby : b.2 = 0 → ∀ x ∈ b.1, 0 ≤ x ∧ x < 256 := fun h => (fortyPut_get (s := s) (l := b.1) (by rw [hbe, ← h])).2
  have hR := hrv
  unfold openE at hR
  rw [hrv]
  rw [hbe] at hG hR
  clear hbe hrv
  by_cases h0 : b.2 = 0
  rotate_left
  · rw [if_pos h0] at hR
    have hzb : (b.2 != 0) = true := by simpa using h0
    have HR := Lib.hid hR
    clear hR h0 hby
    go_enter Try.func41, Try.ntmps41
    go_wp2_with (go_at_call 86; (with_reducible refine hG.mono ?_); rintro e w1 ⟨v, rfl, ho, hb1⟩)
    rw [← HR.out]
    exact bodyPost_ret (results_tmp4 rfl _ _ _) rfl (open_nil hb1)
  rw [if_neg (fun h => h h0)] at hR
  have hzb : (b.2 != 0) = false := by simpa using h0
  have HBY := Lib.hid (hby h0)
  have e0 : b = (b.1, 0) := by rw [← h0]
  clear hby
  obtain ⟨m, hm⟩ : ∃ m, b.1.length = m := ⟨_, rfl⟩
  by_cases h32 : m < 32
  · rw [if_pos (by omega)] at hR
    have hwn : IntKind.i64.wrap ((m : Int) - 32) = (m : Int) - 32 := by rw [IntKind.wrap_i64]; omega
    have hlt : (m : Int) - 32 < 0 := by omega
    have HR := Lib.hid hR
    clear hR h0 e0
    go_enter Try.func41, Try.ntmps41
    go_wp2_with (go_at_call 86; (with_reducible refine hG.mono ?_); rintro e w1 ⟨v, rfl, ho, hb1⟩; rw [hm] at ho; obtain ⟨Ab, cb, rfl, _, _⟩ := own_slice ho)
    rw [← HR.out]
    exact bodyPost_ret (results_tmp4 rfl _ _ _) rfl (open_nil hb1)
  · rw [if_neg (by omega)] at hR
    obtain ⟨n, hn⟩ : ∃ n, m = n + 32 := ⟨m - 32, by omega⟩
    rw [show b.1.length - 32 = n by omega] at hR
    have hTl : (b.1.take n).length = n := by rw [List.length_take]; omega
    have hDl : (b.1.drop n).length = 32 := by rw [List.length_drop]; omega
    have HR := Lib.hid hR
    have HM := Lib.hid hm
    have HN := Lib.hid hn
    have HTL := Lib.hid hTl
    have HDL := Lib.hid hDl
    have hlt : ¬ (m : Int) - 32 < 0 := by omega
    have hn0 : (0 : Int) ≤ (n : Int) := by omega
    have hnn : ¬ (n : Int) < 0 := by omega
    have hnm : (n : Int) ≤ (m : Int) := by omega
    clear hR h0 e0 hn hTl hDl
    go_enter Try.func41, Try.ntmps41
    go_wp2_with (first | (go_at_call 86; (with_reducible refine hG.mono ?_); rintro e w1 ⟨v, rfl, ho, hb1⟩; rw [hm] at ho; obtain ⟨Ab, cb, rfl, u1, u2⟩ := own_slice ho; have hrd : RdI w1 .u8 Ab b.1 := (by rw [← hm] at ho; exact RdI.of_own ho); unfold maxLen at u2; have hwn : IntKind.i64.wrap ((m : Int) - 32) = (n : Int) := (by have := HN.out; rw [IntKind.wrap_i64]; omega); have hnc : (n : Int) ≤ (cb : Int) := (by omega); have hmc : (m : Int) ≤ (cb : Int) := (by omega); have hcn : ¬ cb = n := (by have := HN.out; omega); obtain ⟨ad, rfl, _⟩ := hrd.at_ (j := 0) (by have := HN.out; omega); have hrt : RdI w1 .u8 (some ad) (b.1.take n) := (by have h := hrd.sub 0 n; rw [add_zero] at h; exact h); have hT := tlvGet_any (some ad) cb (b.1.take n) w1 hrt (by rw [HTL.out]; omega) (by omega) (fun x hx => HBY.out x (List.mem_of_mem_take hx)); rw [HTL.out] at hT; have HRD := Lib.hid hrd; have HRT := Lib.hid hrt; clear ho hrd hrt) | (go_at_call 87; (with_reducible refine hT.mono ?_); rintro e w2 ⟨A3, c3, rfl, v1, v2, hF, hb2⟩; have HF := Lib.hid hF; have HB2 := Lib.hid hb2; clear hF hT))
    go_region_held3 (fun _ => True) (trivial) (fail)
    all_goals
      go_wp2
      have hmn : m - n = 32 := by have := HN.out; omega
      refine bodyPost_ret (results_tmp4 rfl _ _ _) rfl ?_
      rw [← HR.out]
      refine ⟨some ad, some (ad.add n), A3, cb, cb - n, c3, by rw [HTL.out, HDL.out, ← hmn] <;> rfl, bD HB2.out |> HRT.out.below, ?_, HF.out.below (Below.refl _ _).drew (Nat.le_refl _), fun x hx => HBY.out x (List.mem_of_mem_take hx), fun x hx => HBY.out x (List.mem_of_mem_drop hx), by show (tlvGet (List.take n b.1)).1.length ≤ _; omega, by rw [HDL.out]; omega, bD (bT hb1 HB2.out)⟩
      have h := HRD.out.sub n 32
      rw [List.take_of_length_le (by rw [HDL.out]; omega)] at h
      exact h.below (bD HB2.out)
end Go.Proofs.Ytachkhjbckapoaa

namespace Go.Proofs.Ytachkhjbckapoaa
open Go.RowKit
set_option linter.unusedVariables false
set_option maxRecDepth 100000
set_option linter.unusedSimpArgs false

set_option maxHeartbeats 4000000 in
theorem bcVersion_any (A : Option Addr) (c : Nat) (s : List Int) (w : World) (hr : RdI w .u8 A s) (hlc : s.length ≤ c) (hc9 : c ≤ 9223372036854775807) (hb : ∀ x ∈ s, 0 ≤ x ∧ x < 256) (hl : s.length ≤ 140737488351232) :
    Calls Try.prog 15 #[.slice A s.length c] w fun e w' => e = .returned (.tuple #[.int .i64 (verW s).1, .int .i64 (verW s).2]) ∧ Below w.heap.size w w' := by
  have hO := bcOpen_any A c s w hr hlc hc9 hb hl
  obtain ⟨rv, hrv⟩ : ∃ rv, verW s = rv := ⟨_, rfl⟩
  have hR := hrv
  unfold verW at hR
  rw [hrv]
  clear hrv
  generalize openE s = r at *
  obtain ⟨⟨bd, tg, q⟩, e1⟩ := r
  simp only at hR
  by_cases h0 : e1 = 0
  rotate_left
  · rw [if_pos h0] at hR
    have hzb : (e1 != 0) = true := by simpa using h0
    have HR := Lib.hid hR
    clear hR h0
    go_enter Try.func15, Try.ntmps15
    go_wp2_with (go_at_call 41; (with_reducible refine hO.mono ?_); rintro e w1 ⟨A1, A2, A3, c1, c2, c3, rfl, _, _, _, _, _, _, _, hb1⟩)
    go_ret2
    exact ⟨by rw [← HR.out] <;> rfl, hb1⟩
  rw [if_neg (fun h => h h0)] at hR
  subst h0
  rcases q with _ | ⟨f, t⟩
  · have HR := Lib.hid hR
    clear hR
    have hO2 : Calls Try.prog 41 #[.slice A s.length c] w fun e w' => (∃ (A1 A2 A3 : Option Addr) (c1 c2 c3 n1 n2 : Nat), e = .returned (.tuple #[.slice A1 n1 c1, .slice A2 n2 c2, .slice A3 0 c3, .int .i64 0])) ∧ Below w.heap.size w w' :=
      hO.mono fun e w1 ⟨A1, A2, A3, c1, c2, c3, he, _, _, _, _, _, _, _, hb1⟩ => ⟨⟨A1, A2, A3, c1, c2, c3, _, _, he⟩, hb1⟩
    clear hO
    go_enter Try.func15, Try.ntmps15
    go_wp2_with (go_at_call 41; (with_reducible refine hO2.mono ?_); rintro e w1 ⟨⟨A1, A2, A3, c1, c2, c3, n1, n2, rfl⟩, hb1⟩)
    go_ret2
    exact ⟨by rw [← HR.out] <;> rfl, hb1⟩
  · obtain ⟨n, hn⟩ : ∃ n, (f :: t).length = n := ⟨_, rfl⟩
    have hn0 : (0 : Int) < (n : Int) := by simp at hn; omega
    have hnb : ((n : Int) == 0) = false := by simp; simp at hn; omega
    obtain ⟨m, hm⟩ : ∃ m, f.val.length = m := ⟨_, rfl⟩
    have hO2 : Calls Try.prog 41 #[.slice A s.length c] w fun e w' => (∃ (A1 A2 : Option Addr) (ad : Addr) (B : Option Addr) (c1 c2 c3 n1 n2 c4 : Nat), e = .returned (.tuple #[.slice A1 n1 c1, .slice A2 n2 c2, .slice (some ad) n c3, .int .i64 0]) ∧ w'.cell? ad = some (.int .i64 f.tag) ∧ w'.cell? ⟨ad.block, ad.off + 1, none⟩ = some (.slice B m c4) ∧ RdI w' .u8 B f.val ∧ ∀ x ∈ f.val, 0 ≤ x ∧ x < 256) ∧ Below w.heap.size w w' := by
      refine hO.mono fun e w1 ⟨A1, A2, A3, c1, c2, c3, he, _, _, hF, _, _, _, _, hb1⟩ => ?_
      rcases hF with h | ⟨ad, rfl, _, hka⟩
      · cases h
      obtain ⟨B, c4, x0, x1, _, _, x2, x3⟩ := hka 0 (by simp)
      rw [Nat.zero_mul, add_zero] at x0 x1
      simp only [List.getElem_cons_zero] at x0 x1 x2 x3
      rw [hm] at x1
      simp only [hn] at he
      exact ⟨⟨A1, A2, ad, B, c1, c2, c3, _, _, c4, he, x0, x1, x2, x3⟩, hb1⟩
    have hR' : (if f.tag ≠ 1 ∨ f.val.length ≠ 1 ∨ f.val.getD 0 0 < 1 ∨ 3 < f.val.getD 0 0 then ((0 : Int), (12 : Int)) else (f.val.getD 0 0, 0)) = rv := hR
    rw [hm] at hR'
    clear hO hR hn
    have HX := Lib.hid hR'
    by_cases h1 : f.tag ≠ 1
    · have hb1' : (f.tag != 1) = true := by simpa using h1
      have HR := Lib.hid (show ((0 : Int), (12 : Int)) = rv by have h := HX.out; rw [if_pos (.inl h1)] at h; exact h)
      clear hR' HX
      go_enter Try.func15, Try.ntmps15
      go_wp2_with (go_at_call 41; (with_reducible refine hO2.mono ?_); rintro e w1 ⟨⟨A1, A2, ad, B, c1, c2, c3, n1, n2, c4, rfl, x0, x1, x2, x3⟩, hb1⟩)
      go_ret2
      exact ⟨by rw [← HR.out] <;> rfl, hb1⟩
    have hb1' : (f.tag != 1) = false := by simpa using h1
    have H1 := Lib.hid h1
    clear h1
    by_cases h2 : m ≠ 1
    · have hb2' : ((m : Int) != 1) = true := by simp; omega
      have HR := Lib.hid (show ((0 : Int), (12 : Int)) = rv by have h := HX.out; rw [if_pos (.inr (.inl h2))] at h; exact h)
      clear hR' HX
      go_enter Try.func15, Try.ntmps15
      go_wp2_with (go_at_call 41; (with_reducible refine hO2.mono ?_); rintro e w1 ⟨⟨A1, A2, ad, B, c1, c2, c3, n1, n2, c4, rfl, x0, x1, x2, x3⟩, hb1⟩)
      go_ret2
      exact ⟨by rw [← HR.out] <;> rfl, hb1⟩
    have hm1 : m = 1 := Classical.not_not.1 h2
    subst hm1
    clear h2
    obtain ⟨v, hv⟩ : ∃ v, f.val.getD 0 0 = v := ⟨_, rfl⟩
    rw [hv] at hR' HX
    by_cases h3 : v < 1
    · skip
      have HR := Lib.hid (show ((0 : Int), (12 : Int)) = rv by have h := HX.out; rw [if_pos (.inr (.inr (.inl h3)))] at h; exact h)
      clear hR' HX
      go_enter Try.func15, Try.ntmps15
      go_wp2_with (go_at_call 41; (with_reducible refine hO2.mono ?_); rintro e w1 ⟨⟨A1, A2, ad, B, c1, c2, c3, n1, n2, c4, rfl, x0, x1, x2, x3⟩, hb1⟩; obtain ⟨ad2, rfl, y0⟩ := x2.at_ (j := 0) (by omega); rw [add_zero] at y0; rw [hv] at y0; have hvb : 0 ≤ v ∧ v < 256 := x3 v (by rw [← hv]; exact getD_mem (by omega)))
      go_ret2
      exact ⟨by rw [← HR.out] <;> rfl, hb1⟩
    by_cases h4 : 3 < v
    · skip
      have HR := Lib.hid (show ((0 : Int), (12 : Int)) = rv by have h := HX.out; rw [if_pos (.inr (.inr (.inr h4)))] at h; exact h)
      clear hR' HX
      go_enter Try.func15, Try.ntmps15
      go_wp2_with (go_at_call 41; (with_reducible refine hO2.mono ?_); rintro e w1 ⟨⟨A1, A2, ad, B, c1, c2, c3, n1, n2, c4, rfl, x0, x1, x2, x3⟩, hb1⟩; obtain ⟨ad2, rfl, y0⟩ := x2.at_ (j := 0) (by omega); rw [add_zero] at y0; rw [hv] at y0; have hvb : 0 ≤ v ∧ v < 256 := x3 v (by rw [← hv]; exact getD_mem (by omega)))
      go_ret2
      exact ⟨by rw [← HR.out] <;> rfl, hb1⟩
    have HR := Lib.hid (show (v, (0 : Int)) = rv by have h := HX.out; rw [if_neg (by rintro (h | h | h | h); exact H1.out h; exact h rfl; exact h3 h; exact h4 h)] at h; exact h)
    clear hR' HX
    go_enter Try.func15, Try.ntmps15
    go_wp2_with (go_at_call 41; (with_reducible refine hO2.mono ?_); rintro e w1 ⟨⟨A1, A2, ad, B, c1, c2, c3, n1, n2, c4, rfl, x0, x1, x2, x3⟩, hb1⟩; obtain ⟨ad2, rfl, y0⟩ := x2.at_ (j := 0) (by omega); rw [add_zero] at y0; rw [hv] at y0; have hvb : 0 ≤ v ∧ v < 256 := x3 v (by rw [← hv]; exact getD_mem (by omega)))
    go_ret2
    exact ⟨by rw [← HR.out] <;> rfl, hb1⟩
end Go.Proofs.Ytachkhjbckapoaa
