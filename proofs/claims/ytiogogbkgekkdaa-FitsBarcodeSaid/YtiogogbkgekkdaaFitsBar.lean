/- Layer 20's law FitsBarcode: a ticket has room on a barcode just if it is encoded. No condition. -/
import Derived.Test.YtiogogbkgekkdaaEnc
import Derived.Test.YtiogogbkgekkdaaFitsLaw
namespace Go.Proofs.Ytiogogbkgekkdaa
open Go.RowKit
set_option linter.unusedVariables false
set_option maxRecDepth 100000
set_option linter.unusedSimpArgs false

theorem fpGo_ok : ∀ (n : Nat) (l : List Int) (acc : List Fd), n ≤ 13 → (∀ t : Int, 13 - n < t → t ≤ 13 → l.getD (plc t) 0 = 0 ∨ nameE t ≤ l.getD 14 0) → (fpGo l n acc).2 = 0
  | 0, l, acc, _, _ => rfl
  | n + 1, l, acc, hn, h => by
    have ih := fun acc => fpGo_ok n l acc (by omega) (fun t h1 h2 => h t (by omega) h2)
    rw [fpGo_succ]
    by_cases g1 : l.getD (plc (13 - n)) 0 = 0
    · rw [if_pos g1]; exact ih _
    rw [if_neg g1]
    by_cases g2 : n = 1 ∧ l.getD 1 0 ≠ 4
    · rw [if_pos g2]; exact ih _
    rw [if_neg g2]
    rcases h (13 - n) (by omega) (by omega) with h | h
    · exact absurd h g1
    · rw [if_neg (by omega)]; exact ih _
theorem fpGo_bad : ∀ (n : Nat) (l : List Int) (acc : List Fd) (t : Int), n ≤ 13 → 13 - n < t → t ≤ 13 → l.getD (plc t) 0 ≠ 0 → t ≠ 12 → l.getD 14 0 < nameE t → (fpGo l n acc).2 ≠ 0
  | 0, l, acc, t, _, h1, h2, _, _, _ => by omega
  | n + 1, l, acc, t, hn, h1, h2, h3, h4, h5 => by
    rw [fpGo_succ]
    by_cases e : t = 13 - n
    · subst e
      rw [if_neg h3, if_neg (by omega), if_pos h5]
      simp
    have ih := fun acc => fpGo_bad n l acc t (by omega) (by omega) h2 h3 h4 h5
    by_cases g1 : l.getD (plc (13 - n)) 0 = 0
    · rw [if_pos g1]; exact ih _
    rw [if_neg g1]
    by_cases g2 : n = 1 ∧ l.getD 1 0 ≠ 4
    · rw [if_pos g2]; exact ih _
    rw [if_neg g2]
    by_cases g3 : l.getD 14 0 < nameE (13 - n)
    · rw [if_pos g3]; simp
    rw [if_neg g3]
    exact ih _
/-- A ticket is encoded just if it has room. -/
theorem enc_fits (a0 a1 a2 a3 a4 a5 a6 a7 a8 a9 a10 v id : Int) (sec : List Int) (h1 : 0 ≤ id) (h2 : id ≤ 99) (h3 : 1 ≤ sec.length) (h4 : sec.length ≤ 64) :
    ((encE [⟨id, sec, 0, 1⟩] [a0, a1, a2, a3, a4, a5, a6, a7, a8, a9, a10, id, 0, 0, v]).2 == 0) = barB a0 a1 a2 a3 a4 a5 a6 a7 a8 a9 a10 v := by
  have hrg : ringB [⟨id, sec, 0, 1⟩] = true := by
    unfold ringB
    rw [ringGo_cons]
    have : rightB ⟨id, sec, 0, 1⟩ = true := by
      unfold rightB wB
      simp [h1, h2]
      omega
    rw [this]
    simp [ringGo]
    omega
  have hrd : readB [a0, a1, a2, a3, a4, a5, a6, a7, a8, a9, a10, id, 0, 0, v] = (tkB a0 a1 a2 a3 a4 a5 a6 a7 a8 a9 a10 && (decide (0 ≤ id) && decide (id < 100)) && (decide ((0 : Int) = 0) && decide ((0 : Int) = 0)) && (decide (1 ≤ v) && decide (v ≤ 3))) := rfl
  have hF : encF [⟨id, sec, 0, 1⟩] [a0, a1, a2, a3, a4, a5, a6, a7, a8, a9, a10, id, 0, 0, v] = fpE [a0, a1, a2, a3, a4, a5, a6, a7, a8, a9, a10, id, 0, 0, v] := by unfold encF; rw [hrg]; rfl
  have hno : readB [a0, a1, a2, a3, a4, a5, a6, a7, a8, a9, a10, id, 0, 0, v] = false → (encE [⟨id, sec, 0, 1⟩] [a0, a1, a2, a3, a4, a5, a6, a7, a8, a9, a10, id, 0, 0, v]).2 = 1 := by
    intro h
    have e : fpE [a0, a1, a2, a3, a4, a5, a6, a7, a8, a9, a10, id, 0, 0, v] = ([], 1) := by unfold fpE; rw [h]; rfl
    unfold encE
    rw [hF, e]
    rfl
  have hver : 1 ≤ verN a5 a6 := by unfold verN; split <;> (try split) <;> omega
  cases hT : tkB a0 a1 a2 a3 a4 a5 a6 a7 a8 a9 a10 with
  | false =>
    rw [hno (by rw [hrd, hT]; rfl)]
    unfold barB
    rw [hT]
    rfl
  | true =>
    by_cases hv : 1 ≤ v ∧ v ≤ 3
    rotate_left
    · rw [hno (by
        rw [hrd, hT]
        by_cases g : 1 ≤ v
        · rw [decide_eq_false (p := v ≤ 3) (by omega)]; simp
        · rw [decide_eq_false (p := 1 ≤ v) g]; simp)]
      unfold barB
      rw [hT]
      by_cases g : v ≤ 3
      · rw [decide_eq_false (p := verN a5 a6 ≤ v) (by omega)]; rfl
      · rw [decide_eq_false (p := v ≤ 3) g]; simp
    have hr : readB [a0, a1, a2, a3, a4, a5, a6, a7, a8, a9, a10, id, 0, 0, v] = true := by
      rw [hrd, hT, decide_eq_true h1, decide_eq_true (p := id < 100) (by omega), decide_eq_true hv.1, decide_eq_true hv.2]
      rfl
    have hE : fpE [a0, a1, a2, a3, a4, a5, a6, a7, a8, a9, a10, id, 0, 0, v] = fpGo [a0, a1, a2, a3, a4, a5, a6, a7, a8, a9, a10, id, 0, 0, v] 13 [] := by unfold fpE; rw [hr]; rfl
    have hbar : barB a0 a1 a2 a3 a4 a5 a6 a7 a8 a9 a10 v = decide (verN a5 a6 ≤ v) := by unfold barB; rw [hT, decide_eq_true hv.2]; simp
    rw [hbar]
    by_cases hn : verN a5 a6 ≤ v
    · have h0 : (fpGo [a0, a1, a2, a3, a4, a5, a6, a7, a8, a9, a10, id, 0, 0, v] 13 []).2 = 0 := by
        refine fpGo_ok 13 _ [] (by omega) (fun t t1 t2 => ?_)
        show _ ∨ nameE t ≤ v
        by_cases e8 : t = 8
        · subst e8
          show a5 = 0 ∨ (2 : Int) ≤ v
          unfold verN at hn
          split at hn
          · split at hn
            · left; assumption
            · right; omega
          · right; omega
        by_cases e9 : t = 9
        · subst e9
          show a6 = 0 ∨ (3 : Int) ≤ v
          unfold verN at hn
          split at hn
          · left; assumption
          · right; omega
        right
        unfold nameE
        rw [if_neg (by omega), if_neg e8, if_neg e9]
        omega
      obtain ⟨q, hq⟩ : ∃ q, fpE [a0, a1, a2, a3, a4, a5, a6, a7, a8, a9, a10, id, 0, 0, v] = (q, 0) := ⟨_, by rw [hE]; exact Prod.ext rfl h0⟩
      obtain ⟨_, hb, _⟩ := fields_back rfl hq
      have hfind : findE [⟨id, sec, 0, 1⟩] id = (some ⟨id, sec, 0, 1⟩, 0) := by
        unfold findE
        rw [if_neg (by rw [hrg]; simp), if_pos ⟨h1, by omega⟩]
        simp
      have hp : (putE17 q).2 = 0 := by unfold putE17; rw [if_pos hb]
      have := encE_ok (ks := [⟨id, sec, 0, 1⟩]) (l := [a0, a1, a2, a3, a4, a5, a6, a7, a8, a9, a10, id, 0, 0, v]) (k := ⟨id, sec, 0, 1⟩) (by rw [hF, hq]) hfind (by rw [hF, hq]; exact hp)
      rw [this, decide_eq_true hn]
      rfl
    · have h0 : (fpGo [a0, a1, a2, a3, a4, a5, a6, a7, a8, a9, a10, id, 0, 0, v] 13 []).2 ≠ 0 := by
        unfold verN at hn
        by_cases e6 : a6 = 0
        · rw [if_pos e6] at hn
          by_cases e5 : a5 = 0
          · rw [if_pos e5] at hn; omega
          · rw [if_neg e5] at hn
            exact fpGo_bad 13 _ [] 8 (by omega) (by decide) (by omega) e5 (by omega) (by show v < 2; omega)
        · rw [if_neg e6] at hn
          exact fpGo_bad 13 _ [] 9 (by omega) (by decide) (by omega) e6 (by omega) (by show v < 3; omega)
      have h9 : (encE [⟨id, sec, 0, 1⟩] [a0, a1, a2, a3, a4, a5, a6, a7, a8, a9, a10, id, 0, 0, v]).2 ≠ 0 := by
        unfold encE
        rw [hF, hE, if_pos h0]
        exact h0
      rw [decide_eq_false hn]
      simpa using h9

set_option maxHeartbeats 4000000 in
set_option maxRecDepth 100000 in
theorem fitsBarcode_b1 (a0 a1 a2 a3 a4 a5 a6 a7 a8 a9 a10 v id fr til : Int) (B : Option Addr) (c n : Nat) (w : World) (d1 : decide ((n : Int) < 1) = true)  :
    Calls Try.prog 3 #[.agg #[.int .i64 a0, .int .i64 a1, .int .i64 a2, .int .i64 a3, .int .i64 a4, .int .i64 a5, .int .i64 a6, .int .i64 a7, .int .i64 a8, .int .i64 a9, .int .i64 a10], .int .i64 v, .agg #[.int .i64 id, .slice B n c, .int .i64 fr, .int .i64 til]] w fun e w' => e = .returned (.bool true) ∧ Below w.heap.size w w' := by
  go_enter Try.func3, Try.ntmps3
  go_wp2_with (go_at_call 16; refine (fitted_any _).mono ?_; rintro e w1 ⟨rfl, hb1⟩)
  go_ret
  exact ⟨rfl, bT (bA (bel1 w _) _) hb1⟩

set_option maxHeartbeats 4000000 in
set_option maxRecDepth 100000 in
theorem fitsBarcode_b2 (a0 a1 a2 a3 a4 a5 a6 a7 a8 a9 a10 v id fr til : Int) (B : Option Addr) (c n : Nat) (w : World) (d1 : decide ((n : Int) < 1) = false) (d2 : decide ((64 : Int) < (n : Int)) = true)  :
    Calls Try.prog 3 #[.agg #[.int .i64 a0, .int .i64 a1, .int .i64 a2, .int .i64 a3, .int .i64 a4, .int .i64 a5, .int .i64 a6, .int .i64 a7, .int .i64 a8, .int .i64 a9, .int .i64 a10], .int .i64 v, .agg #[.int .i64 id, .slice B n c, .int .i64 fr, .int .i64 til]] w fun e w' => e = .returned (.bool true) ∧ Below w.heap.size w w' := by
  go_enter Try.func3, Try.ntmps3
  go_wp2_with (go_at_call 16; refine (fitted_any _).mono ?_; rintro e w1 ⟨rfl, hb1⟩)
  go_ret
  exact ⟨rfl, bT (bA (bel1 w _) _) hb1⟩

set_option maxHeartbeats 4000000 in
set_option maxRecDepth 100000 in
theorem fitsBarcode_b3 (a0 a1 a2 a3 a4 a5 a6 a7 a8 a9 a10 v id fr til : Int) (B : Option Addr) (c n : Nat) (w : World) (d1 : decide ((n : Int) < 1) = false) (d2 : decide ((64 : Int) < (n : Int)) = false) (d3 : decide (id < 0) = true)  :
    Calls Try.prog 3 #[.agg #[.int .i64 a0, .int .i64 a1, .int .i64 a2, .int .i64 a3, .int .i64 a4, .int .i64 a5, .int .i64 a6, .int .i64 a7, .int .i64 a8, .int .i64 a9, .int .i64 a10], .int .i64 v, .agg #[.int .i64 id, .slice B n c, .int .i64 fr, .int .i64 til]] w fun e w' => e = .returned (.bool true) ∧ Below w.heap.size w w' := by
  go_enter Try.func3, Try.ntmps3
  go_wp2_with (go_at_call 16; refine (fitted_any _).mono ?_; rintro e w1 ⟨rfl, hb1⟩)
  go_ret
  exact ⟨rfl, bT (bA (bel1 w _) _) hb1⟩

set_option maxHeartbeats 4000000 in
set_option maxRecDepth 100000 in
theorem fitsBarcode_b4 (a0 a1 a2 a3 a4 a5 a6 a7 a8 a9 a10 v id fr til : Int) (B : Option Addr) (c n : Nat) (w : World) (d1 : decide ((n : Int) < 1) = false) (d2 : decide ((64 : Int) < (n : Int)) = false) (d3 : decide (id < 0) = false) (d4 : decide (99 < id) = true) :
    Calls Try.prog 3 #[.agg #[.int .i64 a0, .int .i64 a1, .int .i64 a2, .int .i64 a3, .int .i64 a4, .int .i64 a5, .int .i64 a6, .int .i64 a7, .int .i64 a8, .int .i64 a9, .int .i64 a10], .int .i64 v, .agg #[.int .i64 id, .slice B n c, .int .i64 fr, .int .i64 til]] w fun e w' => e = .returned (.bool true) ∧ Below w.heap.size w w' := by
  go_enter Try.func3, Try.ntmps3
  go_wp2_with (go_at_call 16; refine (fitted_any _).mono ?_; rintro e w1 ⟨rfl, hb1⟩)
  go_ret
  exact ⟨rfl, bT (bA (bel1 w _) _) hb1⟩

theorem rdk_one (W : World) (id fr til : Int) (B : Option Addr) (c : Nat) (sec : List Int) (hr : RdI W .u8 B sec) (hc : sec.length ≤ c) (hc9 : c ≤ 9223372036854775807) (hb : ∀ x ∈ sec, 0 ≤ x ∧ x < 256) :
    RdK (W.alloc (.cells #[.int .i64 id, .slice B sec.length c, .int .i64 fr, .int .i64 til] 26)) (some ⟨W.heap.size, 0, none⟩) [⟨id, sec, fr, til⟩] := by
  refine .inr ⟨_, rfl, by simp, fun j hj => ?_⟩
  obtain rfl : j = 0 := by simpa using hj
  have h := heap_alloc_new W (.cells #[.int .i64 id, .slice B sec.length c, .int .i64 fr, .int .i64 til] 26)
  exact ⟨B, c, cell_of_row _ _ 0 _ _ _ h, cell_of_row _ _ 1 _ _ _ h, cell_of_row _ _ 2 _ _ _ h, cell_of_row _ _ 3 _ _ _ h, hc, hc9, hr.below (bel1 _ _), hb⟩
set_option maxHeartbeats 8000000 in
set_option maxRecDepth 100000 in
theorem fitsBarcode_ok (a0 a1 a2 a3 a4 a5 a6 a7 a8 a9 a10 v id fr til : Int) (B : Option Addr) (c n : Nat) (sec : List Int) (w : World) (hn : sec.length = n) (hr : RdI w .u8 B sec) (hc : n ≤ c) (hc9 : c ≤ 9223372036854775807) (hb : ∀ x ∈ sec, 0 ≤ x ∧ x < 256)
    (d1 : decide ((n : Int) < 1) = false) (d2 : decide ((64 : Int) < (n : Int)) = false) (d3 : decide (id < 0) = false) (d4 : decide (99 < id) = false) :
    Calls Try.prog 3 #[.agg #[.int .i64 a0, .int .i64 a1, .int .i64 a2, .int .i64 a3, .int .i64 a4, .int .i64 a5, .int .i64 a6, .int .i64 a7, .int .i64 a8, .int .i64 a9, .int .i64 a10], .int .i64 v, .agg #[.int .i64 id, .slice B n c, .int .i64 fr, .int .i64 til]] w fun e w' => e = .returned (.bool true) ∧ Below w.heap.size w w' := by
  have d1' := of_decide_eq_false d1
  have d2' := of_decide_eq_false d2
  have d3' := of_decide_eq_false d3
  have d4' := of_decide_eq_false d4
  have hq := enc_fits a0 a1 a2 a3 a4 a5 a6 a7 a8 a9 a10 v id sec (by omega) (by omega) (by omega) (by omega)
  have hE := fun A W h => bcEncode_any A 1 [⟨id, sec, 0, 1⟩] a0 a1 a2 a3 a4 a5 a6 a7 a8 a9 a10 id 0 0 v W h (by simp)
  have hE2 : ∀ A W, RdK W A [⟨id, sec, 0, 1⟩] → Calls Try.prog 17 #[.slice A 1 1, .agg #[.int .i64 a0, .int .i64 a1, .int .i64 a2, .int .i64 a3, .int .i64 a4, .int .i64 a5, .int .i64 a6, .int .i64 a7, .int .i64 a8, .int .i64 a9, .int .i64 a10, .int .i64 id, .int .i64 0, .int .i64 0, .int .i64 v]] W (ByteRetE (encE [⟨id, sec, 0, 1⟩] [a0, a1, a2, a3, a4, a5, a6, a7, a8, a9, a10, id, 0, 0, v]) W) := hE
  generalize encE [⟨id, sec, 0, 1⟩] [a0, a1, a2, a3, a4, a5, a6, a7, a8, a9, a10, id, 0, 0, v] = rv at *
  clear hE d1' d2' d3' d4'
  have HQ := Lib.hid hq
  have hK := fun W hW => rdk_one W id 0 1 B c sec hW (by omega) hc9 hb
  rw [hn] at hK
  have HR := Lib.hid hr
  clear hq hr hb hn
  go_enter Try.func3, Try.ntmps3
  go_wp2_with (first | (go_at_call 17; (refine (hE2 _ _ (by have h := hK _ ((HR.out.below (bel1 w (.cells #[.int .i64 a0, .int .i64 a1, .int .i64 a2, .int .i64 a3, .int .i64 a4, .int .i64 a5, .int .i64 a6, .int .i64 a7, .int .i64 a8, .int .i64 a9, .int .i64 a10] 23))).below (bel1 _ (.cells #[.int .i64 id, .slice B n c, .int .i64 fr, .int .i64 til] 26))); simp only [World.size_alloc] at h; exact h)).mono ?_); rintro e w2 ⟨u, rfl, hu, hb2⟩; obtain ⟨hc2, hf2⟩ := bcell hb2; have hz2 : w.heap.size + 2 < w2.heap.size := (by have := hb2.size; simp at this; omega); have hz2a : w.heap.size < w2.heap.size := (by omega); have HB2 := Lib.hid (bT (bA (bA (bel1 w _) _) _) hb2); clear hu hb2) | (go_at_call 16; refine (fitted_any _).mono ?_; rintro e w3 ⟨rfl, hb3⟩; obtain ⟨hc3, hf3⟩ := bcell hb3; have hz3 : w.heap.size + 2 < w3.heap.size := (by have := hb3.size; omega); have HB3 := Lib.hid (bT HB2.out hb3); clear hb3) | (go_at_call 18; refine (bar_any _ _ _ _ _ _ _ _ _ _ _ _ _).mono ?_; rintro e w4 ⟨rfl, hb4⟩))
  go_ret
  exact ⟨by rw [HQ.out]; simp, bT HB3.out hb4⟩

theorem fitsBarcode_any (a0 a1 a2 a3 a4 a5 a6 a7 a8 a9 a10 v id fr til : Int) (B : Option Addr) (c : Nat) (sec : List Int) (w : World) (hr : RdI w .u8 B sec) (hc : sec.length ≤ c) (hc9 : c ≤ 9223372036854775807) (hb : ∀ x ∈ sec, 0 ≤ x ∧ x < 256) :
    Calls Try.prog 3 #[.agg #[.int .i64 a0, .int .i64 a1, .int .i64 a2, .int .i64 a3, .int .i64 a4, .int .i64 a5, .int .i64 a6, .int .i64 a7, .int .i64 a8, .int .i64 a9, .int .i64 a10], .int .i64 v, .agg #[.int .i64 id, .slice B sec.length c, .int .i64 fr, .int .i64 til]] w fun e w' => e = .returned (.bool true) ∧ Below w.heap.size w w' := by
  obtain ⟨n, hn⟩ : ∃ n, sec.length = n := ⟨_, rfl⟩
  rw [hn] at hc ⊢
  by_cases h1 : (n : Int) < 1
  · exact fitsBarcode_b1 a0 a1 a2 a3 a4 a5 a6 a7 a8 a9 a10 v id fr til B c n w (decide_eq_true h1)
  by_cases h2 : (64 : Int) < (n : Int)
  · exact fitsBarcode_b2 a0 a1 a2 a3 a4 a5 a6 a7 a8 a9 a10 v id fr til B c n w (decide_eq_false h1) (decide_eq_true h2)
  by_cases h3 : id < 0
  · exact fitsBarcode_b3 a0 a1 a2 a3 a4 a5 a6 a7 a8 a9 a10 v id fr til B c n w (decide_eq_false h1) (decide_eq_false h2) (decide_eq_true h3)
  by_cases h4 : 99 < id
  · exact fitsBarcode_b4 a0 a1 a2 a3 a4 a5 a6 a7 a8 a9 a10 v id fr til B c n w (decide_eq_false h1) (decide_eq_false h2) (decide_eq_false h3) (decide_eq_true h4)
  exact fitsBarcode_ok a0 a1 a2 a3 a4 a5 a6 a7 a8 a9 a10 v id fr til B c n sec w hn hr hc hc9 hb (decide_eq_false h1) (decide_eq_false h2) (decide_eq_false h3) (decide_eq_false h4)
end Go.Proofs.Ytiogogbkgekkdaa
