/- Layer 19: what barcode.open computes. Layer 19: what barcode.Version computes. Layer 18: what fields.Get computes. No condition. -/
import Derived.Test.YtnbghgenaolfgaaGreatZ14
import Derived.Test.YtnbghgenaolfgaaGreatZ10
import Derived.Test.YtnbghgenaolfgaaGreatZ22
import Derived.Deep.RegionHeld3
namespace Go.Proofs.YtnbghgenaolfgaaGreat
open Go.RowKit
set_option linter.unusedVariables false
set_option maxRecDepth 100000
set_option linter.unusedSimpArgs false

def OpenRet (r : (List Int × List Int × List Fd) × Int) (w : World) (e : Ending) (w' : World) : Prop :=
  ∃ (A1 A2 A3 : Option Addr) (c1 c2 c3 : Nat), e = .returned (.tuple #[.slice A1 r.1.1.length c1, .slice A2 r.1.2.1.length c2, .slice A3 r.1.2.2.length c3, .int .i64 r.2]) ∧ RdI w' .u8 A1 r.1.1 ∧ RdI w' .u8 A2 r.1.2.1 ∧ RdF w' A3 r.1.2.2 ∧
    (∀ x ∈ r.1.1, 0 ≤ x ∧ x < 256) ∧ (∀ x ∈ r.1.2.1, 0 ≤ x ∧ x < 256) ∧ r.1.2.2.length ≤ 9223372036854775807 ∧ r.1.2.1.length ≤ 32 ∧ Below w.heap.size w w'
theorem open_nil {e1 : Int} {w w' : World} (hb : Below w.heap.size w w') : OpenRet (([], [], []), e1) w (.returned (.tuple #[.slice none 0 0, .slice none 0 0, .slice none 0 0, .int .i64 e1])) w' :=
  ⟨none, none, none, 0, 0, 0, rfl, RdI.nil _ _ _, RdI.nil _ _ _, .inl rfl, by simp, by simp, by simp, by simp, hb⟩
theorem results_tmp4 {fn : Func} {a b c d : Tmp} (h : fn.results = #[.tmp a, .tmp b, .tmp c, .tmp d]) (tmps : Array Value) (P : Program) (w : World) :
    (results fn tmps).run P w = .ok (.tuple #[tmps.getD a undef, tmps.getD b undef, tmps.getD c undef, tmps.getD d undef]) w := by
  simp only [results, h, Array.mapM_eq_mapM_toList, List.mapM_cons, List.mapM_nil]
  simp [Sem.run_bind]

set_option maxHeartbeats 4000000 in
theorem bcOpen_any (A : Option Addr) (c : Nat) (s : List Int) (w : World) (hr : RdI w .u8 A s) (hlc : s.length ≤ c) (hc9 : c ≤ 9223372036854775807) (hb : ∀ x ∈ s, 0 ≤ x ∧ x < 256) (hl : s.length ≤ 140737488351232) :
    Calls Tryz.prog 77 #[.slice A s.length c] w (OpenRet (openE s) w) := by
  have hG := fortyGet_any A c s w hr hlc hc9 hb hl
  obtain ⟨b, hbe⟩ : ∃ b, fortyGet s = b := ⟨_, rfl⟩
  obtain ⟨rv, hrv⟩ : ∃ rv, openE s = rv := ⟨_, rfl⟩
  have hby : b.2 = 0 → ∀ x ∈ b.1, 0 ≤ x ∧ x < 256 := fun h => (fortyPut_get (s := s) (l := b.1) (by rw [hbe, ← h])).2
  have hR := hrv
  unfold openE at hR
  rw [hrv]
  rw [hbe] at hG hR
  clear hbe hrv
  by_cases h0 : b.2 = 0
  rotate_left
  · rw [if_pos h0] at hR
    have hzb : (b.2 != 0) = true := by simpa using h0
    have HR := Lib.hid hR
    clear hR h0 hby
    go_enter Tryz.func77, Tryz.ntmps77
    go_wp2_with (go_at_call 147; (with_reducible refine hG.mono ?_); rintro e w1 ⟨v, rfl, ho, hb1⟩)
    rw [← HR.out]
    exact bodyPost_ret (results_tmp4 rfl _ _ _) rfl (open_nil hb1)
  rw [if_neg (fun h => h h0)] at hR
  have hzb : (b.2 != 0) = false := by simpa using h0
  have HBY := Lib.hid (hby h0)
  have e0 : b = (b.1, 0) := by rw [← h0]
  clear hby
  obtain ⟨m, hm⟩ : ∃ m, b.1.length = m := ⟨_, rfl⟩
  by_cases h32 : m < 32
  · rw [if_pos (by omega)] at hR
    have hwn : IntKind.i64.wrap ((m : Int) - 32) = (m : Int) - 32 := by rw [IntKind.wrap_i64]; omega
    have hlt : (m : Int) - 32 < 0 := by omega
    have HR := Lib.hid hR
    clear hR h0 e0
    go_enter Tryz.func77, Tryz.ntmps77
    go_wp2_with (go_at_call 147; (with_reducible refine hG.mono ?_); rintro e w1 ⟨v, rfl, ho, hb1⟩; rw [hm] at ho; obtain ⟨Ab, cb, rfl, _, _⟩ := own_slice ho)
    rw [← HR.out]
    exact bodyPost_ret (results_tmp4 rfl _ _ _) rfl (open_nil hb1)
  · rw [if_neg (by omega)] at hR
    obtain ⟨n, hn⟩ : ∃ n, m = n + 32 := ⟨m - 32, by omega⟩
    rw [show b.1.length - 32 = n by omega] at hR
    have hTl : (b.1.take n).length = n := by rw [List.length_take]; omega
    have hDl : (b.1.drop n).length = 32 := by rw [List.length_drop]; omega
    have HR := Lib.hid hR
    have HM := Lib.hid hm
    have HN := Lib.hid hn
    have HTL := Lib.hid hTl
    have HDL := Lib.hid hDl
    have hlt : ¬ (m : Int) - 32 < 0 := by omega
    have hn0 : (0 : Int) ≤ (n : Int) := by omega
    have hnn : ¬ (n : Int) < 0 := by omega
    have hnm : (n : Int) ≤ (m : Int) := by omega
    clear hR h0 e0 hn hTl hDl
    go_enter Tryz.func77, Tryz.ntmps77
    go_wp2_with (first | (go_at_call 147; (with_reducible refine hG.mono ?_); rintro e w1 ⟨v, rfl, ho, hb1⟩; rw [hm] at ho; obtain ⟨Ab, cb, rfl, u1, u2⟩ := own_slice ho; have hrd : RdI w1 .u8 Ab b.1 := (by rw [← hm] at ho; exact RdI.of_own ho); unfold maxLen at u2; have hwn : IntKind.i64.wrap ((m : Int) - 32) = (n : Int) := (by have := HN.out; rw [IntKind.wrap_i64]; omega); have hnc : (n : Int) ≤ (cb : Int) := (by omega); have hmc : (m : Int) ≤ (cb : Int) := (by omega); have hcn : ¬ cb = n := (by have := HN.out; omega); obtain ⟨ad, rfl, _⟩ := hrd.at_ (j := 0) (by have := HN.out; omega); have hrt : RdI w1 .u8 (some ad) (b.1.take n) := (by have h := hrd.sub 0 n; rw [add_zero] at h; exact h); have hT := tlvGet_any (some ad) cb (b.1.take n) w1 hrt (by rw [HTL.out]; omega) (by omega) (fun x hx => HBY.out x (List.mem_of_mem_take hx)); rw [HTL.out] at hT; have HRD := Lib.hid hrd; have HRT := Lib.hid hrt; clear ho hrd hrt) | (go_at_call 148; (with_reducible refine hT.mono ?_); rintro e w2 ⟨A3, c3, rfl, v1, v2, hF, hb2⟩; have HF := Lib.hid hF; have HB2 := Lib.hid hb2; clear hF hT))
    go_region_held3 (fun _ => True) (trivial) (fail)
    all_goals
      go_wp2
      have hmn : m - n = 32 := by have := HN.out; omega
      refine bodyPost_ret (results_tmp4 rfl _ _ _) rfl ?_
      rw [← HR.out]
      refine ⟨some ad, some (ad.add n), A3, cb, cb - n, c3, by rw [HTL.out, HDL.out, ← hmn] <;> rfl, bD HB2.out |> HRT.out.below, ?_, HF.out.below (Below.refl _ _).drew (Nat.le_refl _), fun x hx => HBY.out x (List.mem_of_mem_take hx), fun x hx => HBY.out x (List.mem_of_mem_drop hx), by show (tlvGet (List.take n b.1)).1.length ≤ _; omega, by rw [HDL.out]; omega, bD (bT hb1 HB2.out)⟩
      have h := HRD.out.sub n 32
      rw [List.take_of_length_le (by rw [HDL.out]; omega)] at h
      exact h.below (bD HB2.out)
end Go.Proofs.YtnbghgenaolfgaaGreat

namespace Go.Proofs.YtnbghgenaolfgaaGreat
open Go.RowKit
set_option linter.unusedVariables false
set_option maxRecDepth 100000
set_option linter.unusedSimpArgs false

set_option maxHeartbeats 4000000 in
theorem bcVersion_any (A : Option Addr) (c : Nat) (s : List Int) (w : World) (hr : RdI w .u8 A s) (hlc : s.length ≤ c) (hc9 : c ≤ 9223372036854775807) (hb : ∀ x ∈ s, 0 ≤ x ∧ x < 256) (hl : s.length ≤ 140737488351232) :
    Calls Tryz.prog 57 #[.slice A s.length c] w fun e w' => e = .returned (.tuple #[.int .i64 (verW s).1, .int .i64 (verW s).2]) ∧ Below w.heap.size w w' := by
  have hO := bcOpen_any A c s w hr hlc hc9 hb hl
  obtain ⟨rv, hrv⟩ : ∃ rv, verW s = rv := ⟨_, rfl⟩
  have hR := hrv
  unfold verW at hR
  rw [hrv]
  clear hrv
  generalize openE s = r at *
  obtain ⟨⟨bd, tg, q⟩, e1⟩ := r
  simp only at hR
  by_cases h0 : e1 = 0
  rotate_left
  · rw [if_pos h0] at hR
    have hzb : (e1 != 0) = true := by simpa using h0
    have HR := Lib.hid hR
    clear hR h0
    go_enter Tryz.func57, Tryz.ntmps57
    go_wp2_with (go_at_call 77; (with_reducible refine hO.mono ?_); rintro e w1 ⟨A1, A2, A3, c1, c2, c3, rfl, _, _, _, _, _, _, _, hb1⟩)
    go_ret2
    exact ⟨by rw [← HR.out] <;> rfl, hb1⟩
  rw [if_neg (fun h => h h0)] at hR
  subst h0
  rcases q with _ | ⟨f, t⟩
  · have HR := Lib.hid hR
    clear hR
    have hO2 : Calls Tryz.prog 77 #[.slice A s.length c] w fun e w' => (∃ (A1 A2 A3 : Option Addr) (c1 c2 c3 n1 n2 : Nat), e = .returned (.tuple #[.slice A1 n1 c1, .slice A2 n2 c2, .slice A3 0 c3, .int .i64 0])) ∧ Below w.heap.size w w' :=
      hO.mono fun e w1 ⟨A1, A2, A3, c1, c2, c3, he, _, _, _, _, _, _, _, hb1⟩ => ⟨⟨A1, A2, A3, c1, c2, c3, _, _, he⟩, hb1⟩
    clear hO
    go_enter Tryz.func57, Tryz.ntmps57
    go_wp2_with (go_at_call 77; (with_reducible refine hO2.mono ?_); rintro e w1 ⟨⟨A1, A2, A3, c1, c2, c3, n1, n2, rfl⟩, hb1⟩)
    go_ret2
    exact ⟨by rw [← HR.out] <;> rfl, hb1⟩
  · obtain ⟨n, hn⟩ : ∃ n, (f :: t).length = n := ⟨_, rfl⟩
    have hn0 : (0 : Int) < (n : Int) := by simp at hn; omega
    have hnb : ((n : Int) == 0) = false := by simp; simp at hn; omega
    obtain ⟨m, hm⟩ : ∃ m, f.val.length = m := ⟨_, rfl⟩
    have hO2 : Calls Tryz.prog 77 #[.slice A s.length c] w fun e w' => (∃ (A1 A2 : Option Addr) (ad : Addr) (B : Option Addr) (c1 c2 c3 n1 n2 c4 : Nat), e = .returned (.tuple #[.slice A1 n1 c1, .slice A2 n2 c2, .slice (some ad) n c3, .int .i64 0]) ∧ w'.cell? ad = some (.int .i64 f.tag) ∧ w'.cell? ⟨ad.block, ad.off + 1, none⟩ = some (.slice B m c4) ∧ RdI w' .u8 B f.val ∧ ∀ x ∈ f.val, 0 ≤ x ∧ x < 256) ∧ Below w.heap.size w w' := by
      refine hO.mono fun e w1 ⟨A1, A2, A3, c1, c2, c3, he, _, _, hF, _, _, _, _, hb1⟩ => ?_
      rcases hF with h | ⟨ad, rfl, _, hka⟩
      · cases h
      obtain ⟨B, c4, x0, x1, _, _, x2, x3⟩ := hka 0 (by simp)
      rw [Nat.zero_mul, add_zero] at x0 x1
      simp only [List.getElem_cons_zero] at x0 x1 x2 x3
      rw [hm] at x1
      simp only [hn] at he
      exact ⟨⟨A1, A2, ad, B, c1, c2, c3, _, _, c4, he, x0, x1, x2, x3⟩, hb1⟩
    have hR' : (if f.tag ≠ 1 ∨ f.val.length ≠ 1 ∨ f.val.getD 0 0 < 1 ∨ 3 < f.val.getD 0 0 then ((0 : Int), (12 : Int)) else (f.val.getD 0 0, 0)) = rv := hR
    rw [hm] at hR'
    clear hO hR hn
    have HX := Lib.hid hR'
    by_cases h1 : f.tag ≠ 1
    · have hb1' : (f.tag != 1) = true := by simpa using h1
      have HR := Lib.hid (show ((0 : Int), (12 : Int)) = rv by have h := HX.out; rw [if_pos (.inl h1)] at h; exact h)
      clear hR' HX
      go_enter Tryz.func57, Tryz.ntmps57
      go_wp2_with (go_at_call 77; (with_reducible refine hO2.mono ?_); rintro e w1 ⟨⟨A1, A2, ad, B, c1, c2, c3, n1, n2, c4, rfl, x0, x1, x2, x3⟩, hb1⟩)
      go_ret2
      exact ⟨by rw [← HR.out] <;> rfl, hb1⟩
    have hb1' : (f.tag != 1) = false := by simpa using h1
    have H1 := Lib.hid h1
    clear h1
    by_cases h2 : m ≠ 1
    · have hb2' : ((m : Int) != 1) = true := by simp; omega
      have HR := Lib.hid (show ((0 : Int), (12 : Int)) = rv by have h := HX.out; rw [if_pos (.inr (.inl h2))] at h; exact h)
      clear hR' HX
      go_enter Tryz.func57, Tryz.ntmps57
      go_wp2_with (go_at_call 77; (with_reducible refine hO2.mono ?_); rintro e w1 ⟨⟨A1, A2, ad, B, c1, c2, c3, n1, n2, c4, rfl, x0, x1, x2, x3⟩, hb1⟩)
      go_ret2
      exact ⟨by rw [← HR.out] <;> rfl, hb1⟩
    have hm1 : m = 1 := Classical.not_not.1 h2
    subst hm1
    clear h2
    obtain ⟨v, hv⟩ : ∃ v, f.val.getD 0 0 = v := ⟨_, rfl⟩
    rw [hv] at hR' HX
    by_cases h3 : v < 1
    · skip
      have HR := Lib.hid (show ((0 : Int), (12 : Int)) = rv by have h := HX.out; rw [if_pos (.inr (.inr (.inl h3)))] at h; exact h)
      clear hR' HX
      go_enter Tryz.func57, Tryz.ntmps57
      go_wp2_with (go_at_call 77; (with_reducible refine hO2.mono ?_); rintro e w1 ⟨⟨A1, A2, ad, B, c1, c2, c3, n1, n2, c4, rfl, x0, x1, x2, x3⟩, hb1⟩; obtain ⟨ad2, rfl, y0⟩ := x2.at_ (j := 0) (by omega); rw [add_zero] at y0; rw [hv] at y0; have hvb : 0 ≤ v ∧ v < 256 := x3 v (by rw [← hv]; exact getD_mem (by omega)))
      go_ret2
      exact ⟨by rw [← HR.out] <;> rfl, hb1⟩
    by_cases h4 : 3 < v
    · skip
      have HR := Lib.hid (show ((0 : Int), (12 : Int)) = rv by have h := HX.out; rw [if_pos (.inr (.inr (.inr h4)))] at h; exact h)
      clear hR' HX
      go_enter Tryz.func57, Tryz.ntmps57
      go_wp2_with (go_at_call 77; (with_reducible refine hO2.mono ?_); rintro e w1 ⟨⟨A1, A2, ad, B, c1, c2, c3, n1, n2, c4, rfl, x0, x1, x2, x3⟩, hb1⟩; obtain ⟨ad2, rfl, y0⟩ := x2.at_ (j := 0) (by omega); rw [add_zero] at y0; rw [hv] at y0; have hvb : 0 ≤ v ∧ v < 256 := x3 v (by rw [← hv]; exact getD_mem (by omega)))
      go_ret2
      exact ⟨by rw [← HR.out] <;> rfl, hb1⟩
    have HR := Lib.hid (show (v, (0 : Int)) = rv by have h := HX.out; rw [if_neg (by rintro (h | h | h | h); exact H1.out h; exact h rfl; exact h3 h; exact h4 h)] at h; exact h)
    clear hR' HX
    go_enter Tryz.func57, Tryz.ntmps57
    go_wp2_with (go_at_call 77; (with_reducible refine hO2.mono ?_); rintro e w1 ⟨⟨A1, A2, ad, B, c1, c2, c3, n1, n2, c4, rfl, x0, x1, x2, x3⟩, hb1⟩; obtain ⟨ad2, rfl, y0⟩ := x2.at_ (j := 0) (by omega); rw [add_zero] at y0; rw [hv] at y0; have hvb : 0 ≤ v ∧ v < 256 := x3 v (by rw [← hv]; exact getD_mem (by omega)))
    go_ret2
    exact ⟨by rw [← HR.out] <;> rfl, hb1⟩
end Go.Proofs.YtnbghgenaolfgaaGreat

namespace Go.Proofs.YtnbghgenaolfgaaGreat
open Go.RowKit
set_option linter.unusedVariables false
set_option maxRecDepth 100000
set_option linter.unusedSimpArgs false

def iv (l : List Int) : List Value := l.map (Value.int .i64)
theorem iv_len (l : List Int) : (iv l).length = l.length := by simp [iv]
theorem iv_set (l : List Int) (j : Nat) (n : Int) : (iv l).set j (.int .i64 n) = iv (l.set j n) := by simp [iv, List.map_set]
theorem row_iv {w : World} {g : Nat} {l : List Int} {t : TypeId} {j : Nat} (h : w.heap[g]? = some (.cells (iv l).toArray t (0, 0))) (hj : j < l.length) : w.cell? ⟨g, j, none⟩ = some (.int .i64 (l.getD j 0)) := by
  rw [cell_of_row w g j _ t (0, 0) h, List.getElem?_toArray]
  simp [iv, List.getD_eq_getElem?_getD, hj]
theorem row_ivset {w : World} {g : Nat} {l : List Int} {t : TypeId} (j : Nat) (n : Int) (h : w.heap[g]? = some (.cells (iv l).toArray t (0, 0))) : (w.setCell ⟨g, j, none⟩ (.int .i64 n)).heap[g]? = some (.cells (iv (l.set j n)).toArray t (0, 0)) := by
  rw [heap_setCell_same w g j _ _ _ h, ← iv_set]
  simp
theorem iv_one (l : List Int) : ∀ v ∈ iv l, v.oneCell' = true := one_ints .i64 l

theorem infoRd : (Tryz.prog.info? 28).map (·.size) = some 15 := by kernel_rfl
def FGRet (r : List Int × Int) (w : World) (e : Ending) (w' : World) : Prop := e = .returned (.tuple #[.agg (iv r.1).toArray, .int .i64 r.2]) ∧ Below w.heap.size w w'
theorem fgPost {r : List Int × Int} {w w' : World} {a : Act} {old cs : Array Value} {l : List Int} (hcs : cs = (iv l).toArray) (hd : a.defers = []) (hp : a.tmps.getD 2 undef = .pointer (some ⟨w.heap.size, 0, none⟩)) (hv : a.tmps.getD 3 undef = .int .i64 r.2) (hr : r.1 = l) (hl : l.length = 15)
    (hF : w'.heap[w.heap.size]? = some (.cells old 28 (0, 0))) (hb : Below w.heap.size w w') : bodyPost Tryz.prog Tryz.f80 (FGRet r w) .ret a (w'.setRow w.heap.size cs) := by
  subst hcs hr
  exact bodyPost_ret (results_keyrow rfl Tryz.underlying28 rfl hp hv (setRow_heap _ _ _ _ _ _ hF) (by rw [List.size_toArray, iv_len, hl]; exact infoRd)) hd ⟨rfl, setRow_below hb (Nat.le_refl _)⟩
theorem list15 (l : List Int) (h : l.length = 15) : ∃ x0 x1 x2 x3 x4 x5 x6 x7 x8 x9 x10 x11 x12 x13 x14, l = [x0, x1, x2, x3, x4, x5, x6, x7, x8, x9, x10, x11, x12, x13, x14] := by
  match l, h with
  | [x0, x1, x2, x3, x4, x5, x6, x7, x8, x9, x10, x11, x12, x13, x14], _ => exact ⟨x0, x1, x2, x3, x4, x5, x6, x7, x8, x9, x10, x11, x12, x13, x14, rfl⟩
theorem fgEnd15 (x0 x1 x2 x3 x4 x5 x6 x7 x8 x9 x10 x11 x12 x13 x14 la : Int) : fgEnd [x0, x1, x2, x3, x4, x5, x6, x7, x8, x9, x10, x11, x12, x13, x14] la = if x14 < la ∨ 3 < x14 then (zL, 12) else if x1 = 4 then (if 100 ≤ x11 ∨ tkL [x0, x1, x2, x3, x4, x5, x6, x7, x8, x9, x10, x11, x12, x13, x14] = false then (zL, 9) else ([x0, x1, x2, x3, x4, x5, x6, x7, x8, x9, x10, x11, x12, x13, x14], 0)) else if x9 ≠ 0 then (zL, 9) else if 100 ≤ x11 ∨ tkL [x0, x1, x2, x3, x4, x5, x6, x7, x8, (x1 % 3), x10, x11, x12, x13, x14] = false then (zL, 9) else ([x0, x1, x2, x3, x4, x5, x6, x7, x8, (x1 % 3), x10, x11, x12, x13, x14], 0) := rfl
theorem z15_eq : (#[.int .i64 0, .int .i64 0, .int .i64 0, .int .i64 0, .int .i64 0, .int .i64 0, .int .i64 0, .int .i64 0, .int .i64 0, .int .i64 0, .int .i64 0, .int .i64 0, .int .i64 0, .int .i64 0, .int .i64 0] : Array Value) = (iv zL).toArray := rfl

set_option maxHeartbeats 8000000 in
set_option maxRecDepth 100000 in
theorem fieldsGet_any (A : Option Addr) (c : Nat) (q : List Fd) (w : World) (hr : RdF w A q) (hl : q.length ≤ 9223372036854775807) :
    Calls Tryz.prog 80 #[.slice A q.length c] w (FGRet (fgE q) w) := by
  have hI := fun W hW => tlvIs_any A c q W hW hl
  obtain ⟨rv, hrv⟩ : ∃ rv, fgE q = rv := ⟨_, rfl⟩
  rw [hrv]
  have hF0 := heap_alloc_new w (.cells #[.int .i64 0, .int .i64 0, .int .i64 0, .int .i64 0, .int .i64 0, .int .i64 0, .int .i64 0, .int .i64 0, .int .i64 0, .int .i64 0, .int .i64 0, .int .i64 0, .int .i64 0, .int .i64 0, .int .i64 0] 28)
  have hs0 : w.heap.size < (w.alloc (.cells #[.int .i64 0, .int .i64 0, .int .i64 0, .int .i64 0, .int .i64 0, .int .i64 0, .int .i64 0, .int .i64 0, .int .i64 0, .int .i64 0, .int .i64 0, .int .i64 0, .int .i64 0, .int .i64 0, .int .i64 0] 28)).heap.size := by simp
  have hb0 := bel1 w (.cells #[.int .i64 0, .int .i64 0, .int .i64 0, .int .i64 0, .int .i64 0, .int .i64 0, .int .i64 0, .int .i64 0, .int .i64 0, .int .i64 0, .int .i64 0, .int .i64 0, .int .i64 0, .int .i64 0, .int .i64 0] 28)
  have hr0 := hr.below hb0 (Nat.le_refl _)
  cases hz : tlvB 0 q with
  | false =>
    have E := Lib.hid (show rv = (zL, 1) by rw [← hrv]; unfold fgE; rw [hz]; rfl)
    rw [hz] at hI
    go_enter Tryz.func80, Tryz.ntmps80
    go_wp2_with (first | (go_at_call 149; (with_reducible refine (hI _ hr0).mono ?_); rintro e w1 ⟨rfl, hb1⟩; have hF := (hb1.block w.heap.size hs0).trans hF0; have hbx := hb0.trans (hb1.mono (Nat.le_of_lt hs0))) | (refine wpList_store_row rfl 28 _ _ rfl w.heap.size #[.int .i64 0, .int .i64 0, .int .i64 0, .int .i64 0, .int .i64 0, .int .i64 0, .int .i64 0, .int .i64 0, .int .i64 0, .int .i64 0, .int .i64 0, .int .i64 0, .int .i64 0, .int .i64 0, .int .i64 0] rfl rfl 28 _ hF ?_ ?_ ?_ ?_; (focus (exact infoRd)); (focus rfl); (focus (simp [Value.oneCell']))))
    exact fgPost z15_eq rfl rfl (by rw [E.out] <;> rfl) (by rw [E.out] <;> rfl) rfl hF hbx
  | true =>
    rw [hz] at hI
    have EF := Lib.hid (show rv = (if (fgGo q zL 1).2.2 ≠ 0 then (zL, (fgGo q zL 1).2.2) else fgEnd (fgGo q zL 1).1 (fgGo q zL 1).2.1) by rw [← hrv]; unfold fgE; rw [if_pos hz])
    obtain ⟨hlen, _⟩ := tlvB_facts q 0 hz (by omega)
    clear hrv hz
    go_enter Tryz.func80, Tryz.ntmps80
    go_wp2_with (go_at_call 149; (with_reducible refine (hI _ hr0).mono ?_); rintro e w1 ⟨rfl, hb1⟩; have hF := (hb1.block w.heap.size hs0).trans hF0; have hbx := hb0.trans (hb1.mono (Nat.le_of_lt hs0)))
    have hgS : (w1.alloc (.cells #[.int .i64 0, .int .i64 0, .int .i64 0, .int .i64 0, .int .i64 0, .int .i64 0, .int .i64 0, .int .i64 0, .int .i64 0, .int .i64 0, .int .i64 0, .int .i64 0, .int .i64 0, .int .i64 0, .int .i64 0] 158)).heap[w1.heap.size]? = some (.cells (iv zL).toArray 158 (0, 0)) := heap_alloc_new w1 _
    have hlt1 : w.heap.size < w1.heap.size := (Array.getElem?_eq_some_iff.1 hF).1
    have hF4 := ((bel1 w1 (.cells #[.int .i64 0, .int .i64 0, .int .i64 0, .int .i64 0, .int .i64 0, .int .i64 0, .int .i64 0, .int .i64 0, .int .i64 0, .int .i64 0, .int .i64 0, .int .i64 0, .int .i64 0, .int .i64 0, .int .i64 0] 158)).block w.heap.size hlt1).trans hF
    have hb4 := bT hbx (bel1 w1 (.cells #[.int .i64 0, .int .i64 0, .int .i64 0, .int .i64 0, .int .i64 0, .int .i64 0, .int .i64 0, .int .i64 0, .int .i64 0, .int .i64 0, .int .i64 0, .int .i64 0, .int .i64 0, .int .i64 0, .int .i64 0] 158))
    obtain ⟨W4, hW4⟩ : ∃ W4, w1.alloc (.cells #[.int .i64 0, .int .i64 0, .int .i64 0, .int .i64 0, .int .i64 0, .int .i64 0, .int .i64 0, .int .i64 0, .int .i64 0, .int .i64 0, .int .i64 0, .int .i64 0, .int .i64 0, .int .i64 0, .int .i64 0] 158) = W4 := ⟨_, rfl⟩
    obtain ⟨g, hg⟩ : ∃ g, w1.heap.size = g := ⟨_, rfl⟩
    rw [hg] at hlt1
    rw [hW4] at hF4 hb4
    rw [hW4, hg] at hgS
    rw [hW4, hg]
    clear hF hbx hF0 hb0 hs0 hr0 hI hW4 hb1 hg w1
    have HR := Lib.hid hr
    clear hr
    go_loopw [5, 7, 8, 9, 10, 11, 12, 21] (fun s _ _ _ _ _ _ i wr => ∃ (k : Nat) (lc : List Int) (la : Int), k ≤ q.length ∧ i = .int .i64 k ∧ s = .int .i64 la ∧ wr.heap[g]? = some (.cells (iv lc).toArray 158 (0, 0)) ∧ lc.length = 15 ∧ Hid (∀ x ∈ lc, 0 ≤ x) ∧ Hid (fgGo (q.drop k) lc la = fgGo q zL 1) ∧ wr.heap[w.heap.size]? = some (.cells #[.int .i64 0, .int .i64 0, .int .i64 0, .int .i64 0, .int .i64 0, .int .i64 0, .int .i64 0, .int .i64 0, .int .i64 0, .int .i64 0, .int .i64 0, .int .i64 0, .int .i64 0, .int .i64 0, .int .i64 0] 28 (0, 0)) ∧ Below w.heap.size w wr) (fun _ _ _ _ _ _ _ i _ => q.length - (intOf i).toNat)
    case atStart => exact ⟨0, zL, 1, Nat.zero_le _, rfl, rfl, hgS, rfl, Lib.hid (by decide), Lib.hid (by simp), hF4, hb4⟩
    case round =>
      obtain ⟨k, lc, la, hk, rfl, rfl, hG, hlc, hnn, hq, hF, hbW⟩ := hrel
      clear hF4 hb4 hgS
      by_cases hlt : k < q.length
      · have e := hq.out
        rw [List.drop_eq_getElem_cons hlt, fgGo_cons] at e
        rcases HR.out.below hbW (Nat.le_refl _) with h0 | ⟨ad, rfl, _, hka⟩
        · simp [h0] at hlt
        obtain ⟨B, c2, c0, c1, hcl, hcc, hsr, hsb⟩ := hka k hlt
        generalize q[k] = f at *
        obtain ⟨t, fv⟩ := f
        simp only at c0 c1 e hcl hsr hsb
        obtain ⟨n2, hn2⟩ : ∃ n2, fv.length = n2 := ⟨_, rfl⟩
        rw [hn2] at c1
        have HE := Lib.hid e
        have k0 : (0 : Int) ≤ (k : Int) := by omega
        have k1 : (k : Int) < (q.length : Int) := by omega
        have hzw : w.heap.size < wr.heap.size := (Array.getElem?_eq_some_iff.1 hF).1
        have hzg : g < wr.heap.size := (Array.getElem?_eq_some_iff.1 hG).1
        clear e hq hka
        by_cases g1 : 128 ≤ t
        · have e := HE.out
          rw [if_pos g1] at e
          have HV := Lib.hid (show rv = (zL, 16) by rw [EF.out, ← e]; rfl)
          have hNO := Lib.hid (show t < 1 ∨ 13 < t by omega)
          clear e HE EF
          go_wp2_with (first | (go_at_call 150; (with_reducible refine (fplace_no _ _ _ hNO.out).mono ?_); rintro e w2 ⟨rfl, hb2⟩; obtain ⟨hc2, hf2⟩ := bcell hb2; have hz2 : wr.heap.size < w2.heap.size := (by have := hb2.size; simp at this; omega); have hF2 := (hb2.block w.heap.size (by simp; omega)).trans ((Below.heap_alloc _ _ _ hzw).trans hF); have hG2 := (hb2.block g (by simp; omega)).trans ((Below.heap_alloc _ _ _ hzg).trans hG); have HR2 := Lib.hid ((hsr.below (bel1 wr (.cells #[.int .i64 t, .slice B n2 c2] 135))).below hb2); have HB2 := Lib.hid (bT (bA hbW _) hb2); clear hb2) | (refine wpList_store_row rfl 28 _ _ rfl w.heap.size #[.int .i64 0, .int .i64 0, .int .i64 0, .int .i64 0, .int .i64 0, .int .i64 0, .int .i64 0, .int .i64 0, .int .i64 0, .int .i64 0, .int .i64 0, .int .i64 0, .int .i64 0, .int .i64 0, .int .i64 0] rfl rfl 28 _ hF2 ?_ ?_ ?_ ?_; (focus (exact infoRd)); (focus rfl); (focus (simp [Value.oneCell']))))
          exact fgPost z15_eq rfl rfl (by rw [HV.out] <;> rfl) (by rw [HV.out] <;> rfl) rfl hF2 HB2.out
        have e := HE.out
        rw [if_neg g1] at e
        by_cases g2 : nameB t = false
        · rw [if_pos g2] at e
          have HV := Lib.hid (show rv = (zL, 15) by rw [EF.out, ← e]; rfl)
          have hNO := Lib.hid (show t < 1 ∨ 13 < t by
            unfold nameB at g2
            simp at g2
            omega)
          clear e HE EF g2
          go_wp2_with (first | (go_at_call 150; (with_reducible refine (fplace_no _ _ _ hNO.out).mono ?_); rintro e w2 ⟨rfl, hb2⟩; obtain ⟨hc2, hf2⟩ := bcell hb2; have hz2 : wr.heap.size < w2.heap.size := (by have := hb2.size; simp at this; omega); have hF2 := (hb2.block w.heap.size (by simp; omega)).trans ((Below.heap_alloc _ _ _ hzw).trans hF); have hG2 := (hb2.block g (by simp; omega)).trans ((Below.heap_alloc _ _ _ hzg).trans hG); have HR2 := Lib.hid ((hsr.below (bel1 wr (.cells #[.int .i64 t, .slice B n2 c2] 135))).below hb2); have HB2 := Lib.hid (bT (bA hbW _) hb2); clear hb2) | (refine wpList_store_row rfl 28 _ _ rfl w.heap.size #[.int .i64 0, .int .i64 0, .int .i64 0, .int .i64 0, .int .i64 0, .int .i64 0, .int .i64 0, .int .i64 0, .int .i64 0, .int .i64 0, .int .i64 0, .int .i64 0, .int .i64 0, .int .i64 0, .int .i64 0] rfl rfl 28 _ hF2 ?_ ?_ ?_ ?_; (focus (exact infoRd)); (focus rfl); (focus (simp [Value.oneCell']))))
          exact fgPost z15_eq rfl rfl (by rw [HV.out] <;> rfl) (by rw [HV.out] <;> rfl) rfl hF2 HB2.out
        rw [if_neg g2] at e
        have ht := nameB_to (by simpa using g2 : nameB t = true)
        have ht1 := ht.1
        have ht2 := ht.2
        have hpl : plc t < lc.length := by rw [hlc]; exact plc_lt t ht1 ht2
        have hVal : ∀ W, RdI W .u8 B fv → Calls Tryz.prog 151 #[.slice B n2 c2] W fun e w' => e = .returned (.tuple #[.int .i64 (valE fv).1, .int .i64 (valE fv).2]) ∧ W = w' := by
          intro W hW
          rw [← hn2]
          exact value_any B c2 fv W hW (by omega) hsb
        have hvo := fun h => valE_ok (v := fv) h hsb
        generalize valE fv = ve at *
        have HE := Lib.hid e
        clear e g2 ht
        by_cases g3 : ve.2 ≠ 0
        · have e := HE.out
          rw [if_pos g3] at e
          have HV := Lib.hid (show rv = (zL, ve.2) by rw [EF.out, ← e]; simp [g3])
          have hzb : (ve.2 != 0) = true := by simpa using g3
          clear e HE EF g3 hvo
          go_wp2_with (first | (go_at_call 150; (with_reducible refine (fplace_any _ _ _ ht1 ht2).mono ?_); rintro e w2 ⟨rfl, hb2⟩; obtain ⟨hc2, hf2⟩ := bcell hb2; have hz2 : wr.heap.size < w2.heap.size := (by have := hb2.size; simp at this; omega); have hF2 := (hb2.block w.heap.size (by simp; omega)).trans ((Below.heap_alloc _ _ _ hzw).trans hF); have hG2 := (hb2.block g (by simp; omega)).trans ((Below.heap_alloc _ _ _ hzg).trans hG); have HR2 := Lib.hid ((hsr.below (bel1 wr (.cells #[.int .i64 t, .slice B n2 c2] 135))).below hb2); have HB2 := Lib.hid (bT (bA hbW _) hb2); clear hb2; have hcs := row_iv hG2 hpl; have hfs : w2.frozen? ⟨g, plc t, none⟩ = false := (by simp [World.frozen?, hG2]); have hcc : ∀ v, (w2.setCell ⟨g, plc t, none⟩ v).cell? ⟨wr.heap.size, 0, none⟩ = some (.int .i64 t) := (fun v => (World.cell?_of_block (Below.heap_setCell w2 ⟨g, plc t, none⟩ v wr.heap.size (by show wr.heap.size ≠ g; omega))).trans ((hc2 _ _ (by simp)).trans (cell_of_row _ _ 0 _ _ _ (heap_alloc_new wr _))))) | (go_at_call 151; (with_reducible refine (hVal _ HR2.out).mono ?_); rintro e w3 ⟨rfl, rfl⟩) | (refine wpList_store_row rfl 28 _ _ rfl w.heap.size #[.int .i64 0, .int .i64 0, .int .i64 0, .int .i64 0, .int .i64 0, .int .i64 0, .int .i64 0, .int .i64 0, .int .i64 0, .int .i64 0, .int .i64 0, .int .i64 0, .int .i64 0, .int .i64 0, .int .i64 0] rfl rfl 28 _ hF2 ?_ ?_ ?_ ?_; (focus (exact infoRd)); (focus rfl); (focus (simp [Value.oneCell']))))
          exact fgPost z15_eq rfl rfl (by rw [HV.out] <;> rfl) (by rw [HV.out] <;> rfl) rfl hF2 HB2.out
        · have e := HE.out
          rw [if_neg g3] at e
          have hv0 : ve.2 = 0 := Classical.not_not.1 g3
          have hvv := hvo hv0
          have hzb : (ve.2 != 0) = false := by simpa using hv0
          have HX := Lib.hid e
          have HVV := Lib.hid hvv
          have hne1 : ¬ g = wr.heap.size := by omega
          have hfw : wr.frozen? ⟨g, plc t, none⟩ = false := by simp [World.frozen?, hG]
          have hcw := row_iv hG hpl
          have hne2 : ¬ wr.heap.size = g := by omega
          clear e HE EF g3 hvo hvv hv0
          go_wp2_with (first | (go_at_call 150; (with_reducible refine (fplace_any _ _ _ ht1 ht2).mono ?_); rintro e w2 ⟨rfl, hb2⟩; obtain ⟨hc2, hf2⟩ := bcell hb2; have hz2 : wr.heap.size < w2.heap.size := (by have := hb2.size; simp at this; omega); have hF2 := (hb2.block w.heap.size (by simp; omega)).trans ((Below.heap_alloc _ _ _ hzw).trans hF); have hG2 := (hb2.block g (by simp; omega)).trans ((Below.heap_alloc _ _ _ hzg).trans hG); have HR2 := Lib.hid ((hsr.below (bel1 wr (.cells #[.int .i64 t, .slice B n2 c2] 135))).below hb2); have HB2 := Lib.hid (bT (bA hbW _) hb2); clear hb2; have hcs := row_iv hG2 hpl; have hfs : w2.frozen? ⟨g, plc t, none⟩ = false := (by simp [World.frozen?, hG2]); have hcc : ∀ v, (w2.setCell ⟨g, plc t, none⟩ v).cell? ⟨wr.heap.size, 0, none⟩ = some (.int .i64 t) := (fun v => (World.cell?_of_block (Below.heap_setCell w2 ⟨g, plc t, none⟩ v wr.heap.size (by show wr.heap.size ≠ g; omega))).trans ((hc2 _ _ (by simp)).trans (cell_of_row _ _ 0 _ _ _ (heap_alloc_new wr _))))) | (go_at_call 151; (with_reducible refine (hVal _ HR2.out).mono ?_); rintro e w3 ⟨rfl, rfl⟩) | (go_at_call 152; (with_reducible refine (name_any _ _).mono ?_); rintro e w4 ⟨rfl, rfl⟩))
          exact ⟨⟨k + 1, lc.set (plc t) ve.1, max la (nameE t), by omega, by go_num, by congr 1; split <;> omega, row_ivset _ _ hG2, by simpa using hlc, Lib.hid (fun x hx => by
            rcases List.mem_or_eq_of_mem_set hx with hx | rfl
            · exact hnn.out x hx
            · have := HVV.out; omega), HX, (Below.heap_setCell _ _ _ _ (by show w.heap.size ≠ g; omega)).trans hF2, HB2.out.setCell (p := ⟨g, plc t, none⟩) (show w.heap.size ≤ g by omega) _⟩, by simp [intOf]; omega⟩
      · have e := hq.out
        rw [List.drop_eq_nil_of_le (by omega)] at e
        obtain ⟨x0, x1, x2, x3, x4, x5, x6, x7, x8, x9, x10, x11, x12, x13, x14, rfl⟩ := list15 lc hlc
        have H0 := Lib.hid (show rv = fgEnd [x0, x1, x2, x3, x4, x5, x6, x7, x8, x9, x10, x11, x12, x13, x14] la by rw [EF.out, ← e]; rfl)
        have HNN := Lib.hid hnn.out
        have hG' : wr.heap[g]? = some (.cells #[.int .i64 x0, .int .i64 x1, .int .i64 x2, .int .i64 x3, .int .i64 x4, .int .i64 x5, .int .i64 x6, .int .i64 x7, .int .i64 x8, .int .i64 x9, .int .i64 x10, .int .i64 x11, .int .i64 x12, .int .i64 x13, .int .i64 x14] 158 (0, 0)) := hG
        have z0 := cell_of_row wr g 0 _ _ _ hG'
        have z1 := cell_of_row wr g 1 _ _ _ hG'
        have z2 := cell_of_row wr g 2 _ _ _ hG'
        have z3 := cell_of_row wr g 3 _ _ _ hG'
        have z4 := cell_of_row wr g 4 _ _ _ hG'
        have z5 := cell_of_row wr g 5 _ _ _ hG'
        have z6 := cell_of_row wr g 6 _ _ _ hG'
        have z7 := cell_of_row wr g 7 _ _ _ hG'
        have z8 := cell_of_row wr g 8 _ _ _ hG'
        have z9 := cell_of_row wr g 9 _ _ _ hG'
        have z10 := cell_of_row wr g 10 _ _ _ hG'
        have z11 := cell_of_row wr g 11 _ _ _ hG'
        have z12 := cell_of_row wr g 12 _ _ _ hG'
        have z13 := cell_of_row wr g 13 _ _ _ hG'
        have z14 := cell_of_row wr g 14 _ _ _ hG'
        have zf : wr.frozen? ⟨g, 9, none⟩ = false := by simp [World.frozen?, hG]
        clear e hq hlc hnn EF HR
        by_cases v1 : x14 < la
        · have HV := Lib.hid (show rv = (zL, 12) by rw [H0.out, fgEnd15]; rw [if_pos (.inl v1)])
          go_wp2_with (refine wpList_store_row rfl 28 _ _ rfl w.heap.size #[.int .i64 0, .int .i64 0, .int .i64 0, .int .i64 0, .int .i64 0, .int .i64 0, .int .i64 0, .int .i64 0, .int .i64 0, .int .i64 0, .int .i64 0, .int .i64 0, .int .i64 0, .int .i64 0, .int .i64 0] rfl rfl 28 _ hF ?_ ?_ ?_ ?_; (focus (exact infoRd)); (focus rfl); (focus (simp [Value.oneCell'])))
          exact fgPost z15_eq rfl rfl (by rw [HV.out] <;> rfl) (by rw [HV.out] <;> rfl) rfl hF hbW
        by_cases v2 : 3 < x14
        · have HV := Lib.hid (show rv = (zL, 12) by rw [H0.out, fgEnd15]; rw [if_pos (.inr v2)])
          go_wp2_with (refine wpList_store_row rfl 28 _ _ rfl w.heap.size #[.int .i64 0, .int .i64 0, .int .i64 0, .int .i64 0, .int .i64 0, .int .i64 0, .int .i64 0, .int .i64 0, .int .i64 0, .int .i64 0, .int .i64 0, .int .i64 0, .int .i64 0, .int .i64 0, .int .i64 0] rfl rfl 28 _ hF ?_ ?_ ?_ ?_; (focus (exact infoRd)); (focus rfl); (focus (simp [Value.oneCell'])))
          exact fgPost z15_eq rfl rfl (by rw [HV.out] <;> rfl) (by rw [HV.out] <;> rfl) rfl hF hbW
        have nv : ¬ (x14 < la ∨ 3 < x14) := by omega
        by_cases c4 : x1 = 4
        · have c4b : (x1 != 4) = false := by simpa using c4
          have C4 := Lib.hid c4
          clear c4
          by_cases k1 : 100 ≤ x11
          · have HV := Lib.hid (show rv = (zL, 9) by rw [H0.out, fgEnd15]; rw [if_neg nv, if_pos C4.out]; rw [if_pos (.inl k1)])
            go_wp2_with (refine wpList_store_row rfl 28 _ _ rfl w.heap.size #[.int .i64 0, .int .i64 0, .int .i64 0, .int .i64 0, .int .i64 0, .int .i64 0, .int .i64 0, .int .i64 0, .int .i64 0, .int .i64 0, .int .i64 0, .int .i64 0, .int .i64 0, .int .i64 0, .int .i64 0] rfl rfl 28 _ hF ?_ ?_ ?_ ?_; (focus (exact infoRd)); (focus rfl); (focus (simp [Value.oneCell'])))
            exact fgPost z15_eq rfl rfl (by rw [HV.out] <;> rfl) (by rw [HV.out] <;> rfl) rfl hF hbW
          cases hT : tkB x0 x1 x2 x3 x4 x5 x6 x7 x8 x9 x10 with
          | false =>
            have HV := Lib.hid (show rv = (zL, 9) by rw [H0.out, fgEnd15]; rw [if_neg nv, if_pos C4.out]; rw [if_pos (.inr hT)])
            go_wp2_with (first | (go_at_call 85; (with_reducible refine (tk_any x0 x1 x2 x3 x4 x5 x6 x7 x8 x9 x10 _).mono ?_); rintro e w5 ⟨he, hb5⟩; rw [hT] at he; subst he; have hF5 := (hb5.block w.heap.size (Array.getElem?_eq_some_iff.1 hF).1).trans hF; have hG5 := (hb5.block g (Array.getElem?_eq_some_iff.1 hG).1).trans hG; have hB5 := bT hbW hb5; clear hb5) | (refine wpList_store_row rfl 28 _ _ rfl w.heap.size #[.int .i64 0, .int .i64 0, .int .i64 0, .int .i64 0, .int .i64 0, .int .i64 0, .int .i64 0, .int .i64 0, .int .i64 0, .int .i64 0, .int .i64 0, .int .i64 0, .int .i64 0, .int .i64 0, .int .i64 0] rfl rfl 28 _ hF5 ?_ ?_ ?_ ?_; (focus (exact infoRd)); (focus rfl); (focus (simp [Value.oneCell']))))
            exact fgPost z15_eq rfl rfl (by rw [HV.out] <;> rfl) (by rw [HV.out] <;> rfl) rfl hF5 hB5
          | true =>
            have HV := Lib.hid (show rv = ([x0, x1, x2, x3, x4, x5, x6, x7, x8, x9, x10, x11, x12, x13, x14], 0) by rw [H0.out, fgEnd15]; rw [if_neg nv, if_pos C4.out]; rw [if_neg (fun h => h.elim k1 (fun h => by rw [show tkL [x0, x1, x2, x3, x4, x5, x6, x7, x8, x9, x10, x11, x12, x13, x14] = true from hT] at h; cases h))])
            go_wp2_with (first | (go_at_call 85; (with_reducible refine (tk_any x0 x1 x2 x3 x4 x5 x6 x7 x8 x9 x10 _).mono ?_); rintro e w5 ⟨he, hb5⟩; rw [hT] at he; subst he; have hF5 := (hb5.block w.heap.size (Array.getElem?_eq_some_iff.1 hF).1).trans hF; have hG5 := (hb5.block g (Array.getElem?_eq_some_iff.1 hG).1).trans hG; have hB5 := bT hbW hb5; clear hb5) | (refine wpList_load_row rfl 28 (.tmp 122) rfl g rfl 158 #[.int .i64 x0, .int .i64 x1, .int .i64 x2, .int .i64 x3, .int .i64 x4, .int .i64 x5, .int .i64 x6, .int .i64 x7, .int .i64 x8, .int .i64 x9, .int .i64 x10, .int .i64 x11, .int .i64 x12, .int .i64 x13, .int .i64 x14] (0, 0) _ hG5 Tryz.underlying28 rfl ?_ ?_; (focus (exact infoRd))) | (refine wpList_store_row rfl 28 _ _ rfl w.heap.size #[.int .i64 x0, .int .i64 x1, .int .i64 x2, .int .i64 x3, .int .i64 x4, .int .i64 x5, .int .i64 x6, .int .i64 x7, .int .i64 x8, .int .i64 x9, .int .i64 x10, .int .i64 x11, .int .i64 x12, .int .i64 x13, .int .i64 x14] rfl rfl 28 _ hF5 ?_ ?_ ?_ ?_; (focus (exact infoRd)); (focus rfl); (focus (simp [Value.oneCell']))))
            exact fgPost (l := [x0, x1, x2, x3, x4, x5, x6, x7, x8, x9, x10, x11, x12, x13, x14]) rfl rfl rfl (by rw [HV.out] <;> rfl) (by rw [HV.out] <;> rfl) rfl hF5 hB5
        have c4b : (x1 != 4) = true := by simpa using c4
        have C4 := Lib.hid c4
        clear c4
        by_cases u9 : x9 = 0
        rotate_left
        · have u9b : (x9 != 0) = true := by simpa using u9
          have HV := Lib.hid (show rv = (zL, 9) by rw [H0.out, fgEnd15]; rw [if_neg nv, if_neg C4.out, if_pos u9])
          clear u9
          go_wp2_with (refine wpList_store_row rfl 28 _ _ rfl w.heap.size #[.int .i64 0, .int .i64 0, .int .i64 0, .int .i64 0, .int .i64 0, .int .i64 0, .int .i64 0, .int .i64 0, .int .i64 0, .int .i64 0, .int .i64 0, .int .i64 0, .int .i64 0, .int .i64 0, .int .i64 0] rfl rfl 28 _ hF ?_ ?_ ?_ ?_; (focus (exact infoRd)); (focus rfl); (focus (simp [Value.oneCell'])))
          exact fgPost z15_eq rfl rfl (by rw [HV.out] <;> rfl) (by rw [HV.out] <;> rfl) rfl hF hbW
        have U9 := Lib.hid u9
        have u9b : (x9 != 0) = false := by simpa using u9
        clear u9
        have htm : x1.tmod 3 = x1 % 3 := Int.tmod_eq_emod_of_nonneg (HNN.out x1 (by simp))
        obtain ⟨m3, hm3⟩ : ∃ m3, x1 % 3 = m3 := ⟨_, rfl⟩
        rw [hm3] at htm
        have hm9 : 0 ≤ m3 ∧ m3 < 3 := by omega
        have hwm : IntKind.i64.wrap m3 = m3 := by rw [IntKind.wrap_i64]; omega
        have HM3 := Lib.hid hm3
        clear hm3
        have hG9 : (wr.setCell ⟨g, 9, none⟩ (.int .i64 m3)).heap[g]? = some (.cells #[.int .i64 x0, .int .i64 x1, .int .i64 x2, .int .i64 x3, .int .i64 x4, .int .i64 x5, .int .i64 x6, .int .i64 x7, .int .i64 x8, .int .i64 m3, .int .i64 x10, .int .i64 x11, .int .i64 x12, .int .i64 x13, .int .i64 x14] 158 (0, 0)) := row_ivset (l := [x0, x1, x2, x3, x4, x5, x6, x7, x8, x9, x10, x11, x12, x13, x14]) 9 m3 hG
        have y0 := cell_of_row _ g 0 _ _ _ hG9
        have y1 := cell_of_row _ g 1 _ _ _ hG9
        have y2 := cell_of_row _ g 2 _ _ _ hG9
        have y3 := cell_of_row _ g 3 _ _ _ hG9
        have y4 := cell_of_row _ g 4 _ _ _ hG9
        have y5 := cell_of_row _ g 5 _ _ _ hG9
        have y6 := cell_of_row _ g 6 _ _ _ hG9
        have y7 := cell_of_row _ g 7 _ _ _ hG9
        have y8 := cell_of_row _ g 8 _ _ _ hG9
        have y9 := cell_of_row _ g 9 _ _ _ hG9
        have y10 := cell_of_row _ g 10 _ _ _ hG9
        have y11 := cell_of_row _ g 11 _ _ _ hG9
        have y12 := cell_of_row _ g 12 _ _ _ hG9
        have y13 := cell_of_row _ g 13 _ _ _ hG9
        have y14 := cell_of_row _ g 14 _ _ _ hG9
        have hF9 : (wr.setCell ⟨g, 9, none⟩ (.int .i64 m3)).heap[w.heap.size]? = some (.cells #[.int .i64 0, .int .i64 0, .int .i64 0, .int .i64 0, .int .i64 0, .int .i64 0, .int .i64 0, .int .i64 0, .int .i64 0, .int .i64 0, .int .i64 0, .int .i64 0, .int .i64 0, .int .i64 0, .int .i64 0] 28 (0, 0)) := (Below.heap_setCell _ _ _ _ (by show w.heap.size ≠ g; omega)).trans hF
        have hB9 : Below w.heap.size w (wr.setCell ⟨g, 9, none⟩ (.int .i64 m3)) := hbW.setCell (p := ⟨g, 9, none⟩) (show w.heap.size ≤ g by omega) _
        by_cases k1 : 100 ≤ x11
        · have HV := Lib.hid (show rv = (zL, 9) by rw [H0.out, fgEnd15]; rw [if_neg nv, if_neg C4.out, if_neg (fun h => h U9.out), HM3.out]; rw [if_pos (.inl k1)])
          go_wp2_with (refine wpList_store_row rfl 28 _ _ rfl w.heap.size #[.int .i64 0, .int .i64 0, .int .i64 0, .int .i64 0, .int .i64 0, .int .i64 0, .int .i64 0, .int .i64 0, .int .i64 0, .int .i64 0, .int .i64 0, .int .i64 0, .int .i64 0, .int .i64 0, .int .i64 0] rfl rfl 28 _ hF9 ?_ ?_ ?_ ?_; (focus (exact infoRd)); (focus rfl); (focus (simp [Value.oneCell'])))
          exact fgPost z15_eq rfl rfl (by rw [HV.out] <;> rfl) (by rw [HV.out] <;> rfl) rfl hF9 hB9
        cases hT : tkB x0 x1 x2 x3 x4 x5 x6 x7 x8 m3 x10 with
        | false =>
          have HV := Lib.hid (show rv = (zL, 9) by rw [H0.out, fgEnd15]; rw [if_neg nv, if_neg C4.out, if_neg (fun h => h U9.out), HM3.out]; rw [if_pos (.inr hT)])
          go_wp2_with (first | (go_at_call 85; (with_reducible refine (tk_any x0 x1 x2 x3 x4 x5 x6 x7 x8 m3 x10 _).mono ?_); rintro e w5 ⟨he, hb5⟩; rw [hT] at he; subst he; have hF5 := (hb5.block w.heap.size (Array.getElem?_eq_some_iff.1 hF9).1).trans hF9; have hG5 := (hb5.block g (Array.getElem?_eq_some_iff.1 hG9).1).trans hG9; have hB5 := bT hB9 hb5; clear hb5) | (refine wpList_store_row rfl 28 _ _ rfl w.heap.size #[.int .i64 0, .int .i64 0, .int .i64 0, .int .i64 0, .int .i64 0, .int .i64 0, .int .i64 0, .int .i64 0, .int .i64 0, .int .i64 0, .int .i64 0, .int .i64 0, .int .i64 0, .int .i64 0, .int .i64 0] rfl rfl 28 _ hF5 ?_ ?_ ?_ ?_; (focus (exact infoRd)); (focus rfl); (focus (simp [Value.oneCell']))))
          exact fgPost z15_eq rfl rfl (by rw [HV.out] <;> rfl) (by rw [HV.out] <;> rfl) rfl hF5 hB5
        | true =>
          have HV := Lib.hid (show rv = ([x0, x1, x2, x3, x4, x5, x6, x7, x8, m3, x10, x11, x12, x13, x14], 0) by rw [H0.out, fgEnd15]; rw [if_neg nv, if_neg C4.out, if_neg (fun h => h U9.out), HM3.out]; rw [if_neg (fun h => h.elim k1 (fun h => by rw [show tkL [x0, x1, x2, x3, x4, x5, x6, x7, x8, m3, x10, x11, x12, x13, x14] = true from hT] at h; cases h))])
          go_wp2_with (first | (go_at_call 85; (with_reducible refine (tk_any x0 x1 x2 x3 x4 x5 x6 x7 x8 m3 x10 _).mono ?_); rintro e w5 ⟨he, hb5⟩; rw [hT] at he; subst he; have hF5 := (hb5.block w.heap.size (Array.getElem?_eq_some_iff.1 hF9).1).trans hF9; have hG5 := (hb5.block g (Array.getElem?_eq_some_iff.1 hG9).1).trans hG9; have hB5 := bT hB9 hb5; clear hb5) | (refine wpList_load_row rfl 28 (.tmp 122) rfl g rfl 158 #[.int .i64 x0, .int .i64 x1, .int .i64 x2, .int .i64 x3, .int .i64 x4, .int .i64 x5, .int .i64 x6, .int .i64 x7, .int .i64 x8, .int .i64 m3, .int .i64 x10, .int .i64 x11, .int .i64 x12, .int .i64 x13, .int .i64 x14] (0, 0) _ hG5 Tryz.underlying28 rfl ?_ ?_; (focus (exact infoRd))) | (refine wpList_store_row rfl 28 _ _ rfl w.heap.size #[.int .i64 x0, .int .i64 x1, .int .i64 x2, .int .i64 x3, .int .i64 x4, .int .i64 x5, .int .i64 x6, .int .i64 x7, .int .i64 x8, .int .i64 m3, .int .i64 x10, .int .i64 x11, .int .i64 x12, .int .i64 x13, .int .i64 x14] rfl rfl 28 _ hF5 ?_ ?_ ?_ ?_; (focus (exact infoRd)); (focus rfl); (focus (simp [Value.oneCell']))))
          exact fgPost (l := [x0, x1, x2, x3, x4, x5, x6, x7, x8, m3, x10, x11, x12, x13, x14]) rfl rfl rfl (by rw [HV.out] <;> rfl) (by rw [HV.out] <;> rfl) rfl hF5 hB5
end Go.Proofs.YtnbghgenaolfgaaGreat
