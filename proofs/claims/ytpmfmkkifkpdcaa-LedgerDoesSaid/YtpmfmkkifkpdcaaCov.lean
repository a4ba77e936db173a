/- Layers 7, 9: zones, what lies between two stations, what a ticket covers. No condition beyond a right ticket and a station. -/
import Derived.Test.YtpmfmkkifkpdcaaLedPure
import Derived.Maps.OwnSet
namespace Go.Proofs.Ytpmfmkkifkpdcaa
open Go.RowKit Go.Maps
set_option linter.unusedVariables false
set_option maxRecDepth 100000
set_option linter.unusedSimpArgs false

theorem away_any (s : Int) (w : World) (h0 : 0 ≤ s) (h1 : s ≤ 39) :
    Calls Try.prog 206 #[.int .i64 s] w fun e w' => e = .returned (.int .i64 (if s < 20 then 20 - s else s - 20)) ∧ w = w' := by
  by_cases h : s < 20
  · have hm : max (s - 20) (20 - s) = 20 - s := by omega
    go_enter Try.func206, Try.ntmps206
    go_wp2
    go_ret
    simp [h]
  · have hm : max (s - 20) (20 - s) = s - 20 := by omega
    go_enter Try.func206, Try.ntmps206
    go_wp2
    go_ret
    simp [h]

theorem lawInt : Keyed Try.prog 3 := int_keyed Try.underlying3
/-- The zones of the stations below k. -/
def TabD (k : Int) (D : DataW Unit) : Prop :=
  IsMap D ∧ (∀ s : Int, Maps.has D (.int .i64 s) = decide (0 ≤ s ∧ s < k)) ∧ ∀ s : Int, 0 ≤ s → s < k → ∀ z, D.atKey (.int .i64 s) z = .lit (.int .i64 (zoneN s))
theorem tab_start : TabD 0 (.map []) := ⟨isMap_empty, fun s => by rw [decide_eq_false (by omega)]; rfl, fun s h0 h1 => by omega⟩
theorem tab_step {k : Int} {D : DataW Unit} (h : TabD k D) (h0 : 0 ≤ k) {v : Int} (hv : v = zoneN k) : TabD (k + 1) (D.put (.int .i64 k) (.lit (.int .i64 v))) := by
  subst hv
  refine ⟨h.1.put _ _, fun s => ?_, fun s h1 h2 z => ?_⟩
  · by_cases hs : s = k
    · subst hs
      rw [has_put_same h.1 (show WideAt.IsKeyLit (.int .i64 s) from trivial), decide_eq_true (by omega)]
    · rw [has_put_other (by simpa using hs), h.2.1]
      rw [Bool.eq_iff_iff]; simp; omega
  · by_cases hs : s = k
    · subst hs; exact atKey_put_same h.1 (show WideAt.IsKeyLit (.int .i64 s) from trivial) _ _
    · rw [atKey_put_other (by simpa using hs)]
      exact h.2.2 s h1 (by omega) z
theorem zone_spell {k : Int} (h0 : 0 ≤ k) : 1 + (if k < 20 then 20 - k else k - 20) / 4 = zoneN k := rfl

set_option maxHeartbeats 2000000 in
theorem table_any (w : World) :
    Calls Try.prog 179 #[] w fun e w' => e = .returned (.map (some w.heap.size)) ∧ (∃ D, w'.ownsMap Try.prog 3 (plainElem Try.prog 3) w.heap.size 40 D ∧ TabD 40 D) ∧ Below w.heap.size w w' := by
  have hmm := @run_makeMap Try.prog
  go_enter Try.func179, Try.ntmps179
  go_wp2
  go_loopw [4] (fun i wr => ∃ (k : Nat) (D : DataW Unit), k ≤ 40 ∧ i = .int .i64 k ∧ wr.ownsMap Try.prog 3 (plainElem Try.prog 3) w.heap.size k D ∧ Hid (TabD k D) ∧ Hid (Below w.heap.size w wr)) (fun i _ => 40 - (intOf i).toNat)
  case atStart => exact ⟨0, .map [], by omega, rfl, World.ownsMap_made _ _ _ _, Lib.hid tab_start, Lib.hid (bel1 w _)⟩
  case round =>
    obtain ⟨k, D, hk, rfl, hown, hT, hB⟩ := hrel
    by_cases hlt : k < 40
    · have hz0 : 0 ≤ (if (k : Int) < 20 then 20 - (k : Int) else (k : Int) - 20) := by split <;> omega
      have hz1 : (if (k : Int) < 20 then 20 - (k : Int) else (k : Int) - 20) ≤ 40 := by split <;> omega
      obtain ⟨z, hz⟩ : ∃ z, (if (k : Int) < 20 then 20 - (k : Int) else (k : Int) - 20) = z := ⟨_, rfl⟩
      rw [hz] at hz0 hz1
      have HA : ∀ W, Calls Try.prog 206 #[.int .i64 (k : Int)] W fun e w' => e = .returned (.int .i64 z) ∧ W = w' := by
        intro W; rw [← hz]; exact away_any k W (by omega) (by omega)
      have HZ := Lib.hid hz
      clear hz
      go_wp2_with (first
        | (go_at_call 206; (with_reducible refine (HA _).mono ?_); rintro e w' ⟨rfl, rfl⟩)
        | (at_mapUpdate; refine wpList_mapUpdate_own _ rfl _ _ _ 201 rfl 3 3 lawInt Try.underlying201 _ _ k _ rfl hown (by unfold maxLen; omega) _ _ _ rfl rfl (keyOf_int_mk Try.underlying3 (WalkArith.wf_i64 (by omega))) _ [] (plainElem_int Try.underlying3 (WalkArith.wf_i64 (by omega))) ?_; intro w1 hown1 hgrow1))
      go_roundw
      case rel => exact ⟨k + 1, _, by omega, by go_num, hown1, Lib.hid (by have h := tab_step hT.out (by omega) (show 1 + z / 4 = zoneN k by rw [← HZ.out]; rfl); rwa [show ((k + 1 : Nat) : Int) = (k : Int) + 1 by omega]), Lib.hid (hB.out.grown hgrow1 hB.out.size (fun j hj => by cases hj; exact Nat.le_refl _))⟩
      case measure => simp [intOf]; omega
    · go_wp2
      go_ret
      have : k = 40 := by omega
      subst this
      exact ⟨rfl, ⟨D, hown, hT.out⟩, hB.out⟩

theorem zoneZ (w : World) : (zeroValue 3).run Try.prog w = .ok (.int .i64 0) w := by kernel_rfl
theorem zoneYes_any (s : Int) (w : World) (h0 : 0 ≤ s) (h1 : s ≤ 39) :
    Calls Try.prog 131 #[.int .i64 s] w fun e w' => e = .returned (.tuple #[.int .i64 (zoneN s), .int .i64 0]) ∧ Below w.heap.size w w' := by
  go_enter Try.func131, Try.ntmps131
  go_wp2_with (first
    | (go_at_call 179; (with_reducible refine (table_any _).mono ?_); rintro e w1 ⟨rfl, ⟨D, hown, hT⟩, hb1⟩; have hh : Maps.has D (.int .i64 s) = true := (by rw [hT.2.1, decide_eq_true (by omega)]); have HT := Lib.hid (hT.2.2 s h0 (by omega) (.lit (.int .i64 0))); clear hT)
    | (at_lookup; refine wpList_lookup_own_ok_int _ rfl _ _ 201 rfl 3 3 .i64 lawInt Try.underlying201 Try.underlying3 (zoneZ _) _ 40 D rfl hown _ _ rfl (keyOf_int_mk Try.underlying3 (WalkArith.wf_i64 (by omega))) ?_; intro c hat hwc; have HC := Lib.hid hat; clear hat))
  go_ret2
  have h := HC.out
  rw [HT.out] at h
  simp only [DataW.lit.injEq, Lit.int.injEq, true_and] at h
  subst h
  exact ⟨rfl, hb1⟩
theorem zoneNo_any (s : Int) (w : World) (h0 : s < 0 ∨ 39 < s) (hw : (Lit.int .i64 s).wf = true) :
    Calls Try.prog 131 #[.int .i64 s] w fun e w' => e = .returned (.tuple #[.int .i64 0, .int .i64 1]) ∧ Below w.heap.size w w' := by
  go_enter Try.func131, Try.ntmps131
  go_wp2_with (first
    | (go_at_call 179; (with_reducible refine (table_any _).mono ?_); rintro e w1 ⟨rfl, ⟨D, hown, hT⟩, hb1⟩; have hh : Maps.has D (.int .i64 s) = false := (by rw [hT.2.1, decide_eq_false (by omega)]); clear hT)
    | (at_lookup; refine wpList_lookup_own_ok_int _ rfl _ _ 201 rfl 3 3 .i64 lawInt Try.underlying201 Try.underlying3 (zoneZ _) _ 40 D rfl hown _ _ rfl (keyOf_int_mk Try.underlying3 hw) ?_; intro c hat hwc; have HC := Lib.hid hat; clear hat))
  go_ret2
  exact ⟨rfl, hb1⟩

theorem ret_bi {a b : Bool} {x : Value} (h : a = b) : Ending.returned (.tuple #[.bool a, x]) = .returned (.tuple #[.bool b, x]) := by rw [h]
theorem bet_any (a b s : Int) (w : World) (ha : wB a 0 39 = true) (hb : wB b 0 39 = true) (hs : wB s 0 39 = true) :
    Calls Try.prog 134 #[.int .i64 a, .int .i64 b, .int .i64 s] w fun e w' => e = .returned (.tuple #[.bool (betB a b s), .int .i64 0]) ∧ w = w' := by
  obtain ⟨a0, a1⟩ := wB_iff ha
  obtain ⟨b0, b1⟩ := wB_iff hb
  obtain ⟨s0, s1⟩ := wB_iff hs
  by_cases d1 : min a b ≤ s
  all_goals
    by_cases hab : a ≤ b
    all_goals
      go_enter Try.func134, Try.ntmps134
      go_wp2_with (go_at_call 178; refine (lineIs_any _ _).mono ?_; rintro e w' ⟨rfl, rfl⟩)
      all_goals
        go_ret2
        refine ⟨ret_bi ?_, rfl⟩
        unfold betB
        rw [Bool.eq_iff_iff]
        simp
        try omega

def TKAt (w : World) (g : Nat) (a0 a1 a2 a3 a4 a5 a6 a7 a8 a9 a10 : Int) : Prop := g < w.heap.size ∧ w.cell? ⟨g, 0, none⟩ = some (.int .i64 a0) ∧ w.cell? ⟨g, 1, none⟩ = some (.int .i64 a1) ∧ w.cell? ⟨g, 2, none⟩ = some (.int .i64 a2) ∧ w.cell? ⟨g, 3, none⟩ = some (.int .i64 a3) ∧ w.cell? ⟨g, 4, none⟩ = some (.int .i64 a4) ∧ w.cell? ⟨g, 5, none⟩ = some (.int .i64 a5) ∧ w.cell? ⟨g, 6, none⟩ = some (.int .i64 a6) ∧ w.cell? ⟨g, 7, none⟩ = some (.int .i64 a7) ∧ w.cell? ⟨g, 8, none⟩ = some (.int .i64 a8) ∧ w.cell? ⟨g, 9, none⟩ = some (.int .i64 a9) ∧ w.cell? ⟨g, 10, none⟩ = some (.int .i64 a10)
theorem cov1_any (a0 a1 a2 a3 a4 a5 a6 a7 a8 a9 a10 z : Int) (p q : Nat) (w : World) (hp : w.cell? ⟨p, 0, none⟩ = some (.int .i64 z)) (h2 : w.cell? ⟨q, 2, none⟩ = some (.int .i64 a2)) (h3 : w.cell? ⟨q, 3, none⟩ = some (.int .i64 a3)) :
    Calls Try.prog 132 #[.pointer (some ⟨p, 0, none⟩), .pointer (some ⟨q, 0, none⟩)] w fun e w' => e = .returned (.bool (wB z a2 a3)) ∧ w = w' := by
  go_enter Try.func132, Try.ntmps132
  go_wp2_with (go_at_call 126; refine (within_any _ _ _ _).mono ?_; rintro e w' ⟨rfl, rfl⟩)
  go_ret
  exact ⟨rfl, rfl⟩
theorem cov2_any (a0 a1 a2 a3 a4 a5 a6 a7 a8 a9 a10 s : Int) (p q : Nat) (w : World) (hp : w.cell? ⟨p, 0, none⟩ = some (.int .i64 s)) (h2 : w.cell? ⟨q, 2, none⟩ = some (.int .i64 a2)) (h3 : w.cell? ⟨q, 3, none⟩ = some (.int .i64 a3)) (ha : wB a2 0 39 = true) (hb : wB a3 0 39 = true) (hs : wB s 0 39 = true) :
    Calls Try.prog 133 #[.pointer (some ⟨q, 0, none⟩), .pointer (some ⟨p, 0, none⟩)] w fun e w' => e = .returned (.bool (betB a2 a3 s)) ∧ w = w' := by
  cases hbt : betB a2 a3 s
  all_goals
    go_enter Try.func133, Try.ntmps133
    go_wp2_with (go_at_call 134; refine (bet_any _ _ _ _ ha hb hs).mono ?_; rintro e w' ⟨rfl, rfl⟩)
    go_ret
    exact ⟨rfl, rfl⟩

theorem ofC_any (a0 a1 a2 a3 a4 a5 a6 a7 a8 a9 a10 z s : Int) (p q r : Nat) (w : World) (hp : w.cell? ⟨p, 0, none⟩ = some (.int .i64 z)) (h2 : w.cell? ⟨q, 2, none⟩ = some (.int .i64 a2)) (h3 : w.cell? ⟨q, 3, none⟩ = some (.int .i64 a3)) (hs : w.cell? ⟨r, 0, none⟩ = some (.int .i64 s)) (hpl : placeB a1 a2 a3 = true) (hss : wB s 0 39 = true) (hz : z = zoneN s) :
    Calls Try.prog 127 #[.agg #[.int .i64 a0, .int .i64 a1, .int .i64 a2, .int .i64 a3, .int .i64 a4, .int .i64 a5, .int .i64 a6, .int .i64 a7, .int .i64 a8, .int .i64 a9, .int .i64 a10], .func (.func 132) #[] #[.pointer (some ⟨p, 0, none⟩), .pointer (some ⟨q, 0, none⟩)], .func (.func 133) #[] #[.pointer (some ⟨q, 0, none⟩), .pointer (some ⟨r, 0, none⟩)]] w fun e w' => e = .returned (.bool (covB a1 a2 a3 s)) ∧ Below w.heap.size w w' := by
  have B := bel1 w (.cells #[.int .i64 a0, .int .i64 a1, .int .i64 a2, .int .i64 a3, .int .i64 a4, .int .i64 a5, .int .i64 a6, .int .i64 a7, .int .i64 a8, .int .i64 a9, .int .i64 a10] 143)
  have K : ∀ {a : Addr} {v : Value}, w.cell? a = some v → (w.alloc (.cells #[.int .i64 a0, .int .i64 a1, .int .i64 a2, .int .i64 a3, .int .i64 a4, .int .i64 a5, .int .i64 a6, .int .i64 a7, .int .i64 a8, .int .i64 a9, .int .i64 a10] 143)).cell? a = some v := fun hc => (B.cell (World.block_lt_of_cell? w _ hc)).trans hc
  have hp' := K hp
  have h2' := K h2
  have h3' := K h3
  have hs' := K hs
  clear B K
  subst hz
  by_cases hk : a1 = 3
  · have d : (a1 == 3) = true := by simpa using hk
    have E : covB a1 a2 a3 s = wB (zoneN s) a2 a3 := by simp [covB, hk]
    rw [E]
    clear E hk
    go_enter Try.func127, Try.ntmps127
    go_wp2_with ((with_reducible refine (cov1_any a0 a1 a2 a3 a4 a5 a6 a7 a8 a9 a10 (zoneN s) p q _ hp' h2' h3').mono ?_); rintro e w' ⟨rfl, rfl⟩)
    go_ret
    exact ⟨rfl, bel1 _ _⟩
  · have d : (a1 == 3) = false := by simpa using hk
    have E : covB a1 a2 a3 s = betB a2 a3 s := by simp [covB, hk]
    have hw : wayB a2 a3 = true := by rw [← hpl]; simp [placeB, hk]
    unfold wayB at hw
    simp only [Bool.and_eq_true, and_assoc] at hw
    obtain ⟨ha, hb, _⟩ := hw
    rw [E]
    clear E hk
    go_enter Try.func127, Try.ntmps127
    go_wp2_with ((with_reducible refine (cov2_any a0 a1 a2 a3 a4 a5 a6 a7 a8 a9 a10 s r q _ hs' h2' h3' ha hb hss).mono ?_); rintro e w' ⟨rfl, rfl⟩)
    go_ret
    exact ⟨rfl, bel1 _ _⟩

theorem tk_place {a0 a1 a2 a3 a4 a5 a6 a7 a8 a9 a10 : Int} (h : tkB a0 a1 a2 a3 a4 a5 a6 a7 a8 a9 a10 = true) : placeB a1 a2 a3 = true := by
  unfold tkB at h
  simp only [Bool.and_eq_true] at h
  exact h.1.2

set_option maxHeartbeats 4000000 in
theorem covers_any (a0 a1 a2 a3 a4 a5 a6 a7 a8 a9 a10 s : Int) (w : World) (hT : tkB a0 a1 a2 a3 a4 a5 a6 a7 a8 a9 a10 = true) (hs0 : 0 ≤ s) (hs1 : s ≤ 39) :
    Calls Try.prog 83 #[.agg #[.int .i64 a0, .int .i64 a1, .int .i64 a2, .int .i64 a3, .int .i64 a4, .int .i64 a5, .int .i64 a6, .int .i64 a7, .int .i64 a8, .int .i64 a9, .int .i64 a10], .int .i64 s] w fun e w' => e = .returned (.tuple #[.bool (covB a1 a2 a3 s), .int .i64 0]) ∧ Below w.heap.size w w' := by
  have hmf : ∀ (fn : Fn) (first cap : Array Value) (w : World), (Instr.makeFunc fn first cap).run Try.prog w = .ok (.func fn first cap) w := fun _ _ _ _ => rfl
  have hpl := Lib.hid (tk_place hT)
  have hss := Lib.hid (wB_mk hs0 hs1)
  go_enter Try.func83, Try.ntmps83
  go_wp2_with (first
    | (go_at_call 131; (with_reducible refine (zoneYes_any s _ hs0 hs1).mono ?_); rintro e w1 ⟨rfl, hb1⟩; obtain ⟨hc1, hf1⟩ := bcell hb1; have hz1 : w.heap.size + 1 < w1.heap.size := (by have := hb1.size; (try simp at this); omega); have hz1' : w.heap.size < w1.heap.size := (by omega))
    | (go_at_call 81; (with_reducible refine (tk_any _ _ _ _ _ _ _ _ _ _ _ _).mono ?_); rintro e w2 ⟨he, hb2⟩; rw [hT] at he; subst he; obtain ⟨hc2, hf2⟩ := bcell hb2; have hz2 : w1.heap.size < w2.heap.size := (by have := hb2.size; (try simp at this); omega))
    | (go_at_call 127; go_loud (refine (ofC_any _ _ _ _ _ _ _ _ _ _ _ (zoneN s) s _ _ _ _ ?_ ?_ ?_ ?_ hpl.out hss.out rfl).mono ?_); (focus (go_loud (rw [hc2 _ _ (by first | (simp; done) | (simp; omega))]; go_simp))); (focus (rw [hc2 _ _ (by first | (simp; done) | (simp; omega))]; go_simp)); (focus (rw [hc2 _ _ (by first | (simp; done) | (simp; omega))]; go_simp)); (focus (rw [hc2 _ _ (by first | (simp; done) | (simp; omega))]; go_simp)); rintro e w3 ⟨rfl, hb3⟩))
  go_ret2
  exact ⟨rfl, (by repeat (first | (with_reducible exact bR _) | (with_reducible refine bT ?_ (by assumption)) | (with_reducible apply bA) | (with_reducible apply bD) | (with_reducible apply bN) | (with_reducible refine bS ?_ (by first | omega | (simp; done) | (simp; omega)))))⟩
end Go.Proofs.Ytpmfmkkifkpdcaa
