/- Layer 18, the reference: names, numbers, refusals. Layer 17, the reference: fields. Layer 18, the reference: what fields are put. Layer 16, the reference: signs. Condition: not more than a million bytes. Layer 5, the reference's rings. Layer 19, the reference: what a barcode is encoded as. Is a ring too great to be looked at? The document's answer is one Bool, and nothing changes. Layer 19's law BarcodeEncodes, walked: the program's bytes are the reference's. An argument that is a slice of keys: it reads as a list of keys. The law BarcodeEncodes, as a row: whatever the ring and the reading, the call returns true, and its arguments read as before. No condition. -/
import Derived.Test.YtachkhjbckapoaaB21
import Derived.Test.YtachkhjbckapoaaB18
import Derived.Test.YtachkhjbckapoaaB19
import Derived.Test.YtachkhjbckapoaaB07
import Derived.Test.YtachkhjbckapoaaB01
import Derived.Test.YtachkhjbckapoaaB04
import Derived.Deep.RegionHeld3
import Derived.Deep.QuietTactic
import Derived.BigQuiet
import Derived.Test.YtachkhjbckapoaaB13
import Derived.Test.YtachkhjbckapoaaB17
import Derived.Test.YtachkhjbckapoaaB35
import Derived.Test.YtachkhjbckapoaaB30
import Derived.Test.YtachkhjbckapoaaB31
import Derived.Test.YtachkhjbckapoaaB34
import Derived.ChangeArms
import Derived.DataReads
import Derived.Test.YtachkhjbckapoaaRows
namespace Go.Proofs.Ytachkhjbckapoaa
open Go.RowKit
set_option linter.unusedVariables false
set_option maxRecDepth 100000
set_option linter.unusedSimpArgs false

theorem refName_any (t : Int) (w : World) : Calls Try.prog 82 #[.int .i64 t] w fun e w' => e = .returned (.tuple #[.int .i64 (nameE t), .bool (nameB t)]) ∧ w = w' := by
  by_cases h1 : t < 1
  · have E1 := Lib.hid (show nameE t = 0 by unfold nameE; rw [if_pos (.inl h1)])
    have E2 := Lib.hid (show nameB t = false by unfold nameB; rw [decide_eq_false (by omega)]; rfl)
    go_enter Try.func82, Try.ntmps82
    go_wp2
    go_ret2
    exact ⟨by rw [E1.out, E2.out] <;> rfl, rfl⟩
  by_cases h2 : 13 < t
  · have E1 := Lib.hid (show nameE t = 0 by unfold nameE; rw [if_pos (.inr h2)])
    have E2 := Lib.hid (show nameB t = false by unfold nameB; rw [decide_eq_false (p := t ≤ 13) (by omega), Bool.and_false])
    go_enter Try.func82, Try.ntmps82
    go_wp2
    go_ret2
    exact ⟨by rw [E1.out, E2.out] <;> rfl, rfl⟩
  have E2 := Lib.hid (show nameB t = true by unfold nameB; rw [decide_eq_true (by omega), decide_eq_true (by omega)]; rfl)
  by_cases h8 : t = 8
  · have E1 := Lib.hid (show nameE t = 2 by unfold nameE; rw [if_neg (by omega), if_pos h8])
    have hq : (t == 8) = true := by simpa using h8
    clear h8
    go_enter Try.func82, Try.ntmps82
    go_wp2
    go_ret2
    exact ⟨by rw [E1.out, E2.out] <;> rfl, rfl⟩
  have hq : (t == 8) = false := by simpa using h8
  by_cases h9 : t = 9
  · have E1 := Lib.hid (show nameE t = 3 by unfold nameE; rw [if_neg (by omega), if_neg h8, if_pos h9])
    have hq9 : (t == 9) = true := by simpa using h9
    clear h9
    go_enter Try.func82, Try.ntmps82
    go_wp2
    go_ret2
    exact ⟨by rw [E1.out, E2.out] <;> rfl, rfl⟩
  have E1 := Lib.hid (show nameE t = 1 by unfold nameE; rw [if_neg (by omega), if_neg h8, if_neg h9])
  have hq9 : (t == 9) = false := by simpa using h9
  go_enter Try.func82, Try.ntmps82
  go_wp2
  go_ret2
  exact ⟨by rw [E1.out, E2.out] <;> rfl, rfl⟩

def numsL (l : List Int) : List Int := (List.range 13).map fun (i : Nat) => pres l ((i : Int) + 1)
theorem numsL_len (l : List Int) : (numsL l).length = 13 := by simp [numsL]
theorem numsL_at {l : List Int} {i : Nat} (h : i < 13) : (numsL l).getD i 0 = pres l ((i : Int) + 1) := by
  unfold numsL; simp [List.getD_eq_getElem?_getD, h]
theorem numsL_of (a0 a1 a2 a3 a4 a5 a6 a7 a8 a9 a10 a11 a12 a13 a14 : Int) : numsL [a0, a1, a2, a3, a4, a5, a6, a7, a8, a9, a10, a11, a12, a13, a14] = [a14, a11, a1, a0, a2, a3, a4, a5, a6, a7, a8, if a1 = 4 then a9 else 0, a10] := by
  unfold numsL
  by_cases h : a1 = 4
  · subst h; rfl
  · have hp : ∀ t : Int, pres [a0, a1, a2, a3, a4, a5, a6, a7, a8, a9, a10, a11, a12, a13, a14] t = if t = 12 then 0 else [a0, a1, a2, a3, a4, a5, a6, a7, a8, a9, a10, a11, a12, a13, a14].getD (plc t) 0 := by
      intro t; unfold pres; simp [h]
    simp only [hp, if_neg h]
    rfl
set_option maxHeartbeats 2000000 in
theorem refNumbers_any (a0 a1 a2 a3 a4 a5 a6 a7 a8 a9 a10 a11 a12 a13 a14 : Int) (w : World) :
    Calls Try.prog 81 #[.agg #[.int .i64 a0, .int .i64 a1, .int .i64 a2, .int .i64 a3, .int .i64 a4, .int .i64 a5, .int .i64 a6, .int .i64 a7, .int .i64 a8, .int .i64 a9, .int .i64 a10, .int .i64 a11, .int .i64 a12, .int .i64 a13, .int .i64 a14]] w fun e w' => (∃ ad : Addr, e = .returned (.slice (some ad) 13 13) ∧ RdI w' .i64 (some ad) (numsL [a0, a1, a2, a3, a4, a5, a6, a7, a8, a9, a10, a11, a12, a13, a14])) ∧ Below w.heap.size w w' := by
  have HN := Lib.hid (numsL_of a0 a1 a2 a3 a4 a5 a6 a7 a8 a9 a10 a11 a12 a13 a14)
  by_cases h : a1 = 4
  · have d : (a1 == 4) = true := by simpa using h
    have HH := Lib.hid h
    clear h
    go_enter Try.func81, Try.ntmps81
    go_wp2
    go_ret
    refine ⟨⟨_, rfl, ?_⟩, (by repeat (first | (with_reducible exact bR _) | (with_reducible refine bT ?_ (by assumption)) | (with_reducible apply bA) | (with_reducible apply bD) | (with_reducible apply bN) | (with_reducible refine bS ?_ (by first | omega | (simp; done) | (simp; omega)))))⟩
    rw [HN.out, if_pos HH.out]
    exact RdI.lit' (l := [a14, a11, a1, a0, a2, a3, a4, a5, a6, a7, a8, a9, a10]) (by simp)
  · have d : (a1 == 4) = false := by simpa using h
    have HH := Lib.hid h
    clear h
    go_enter Try.func81, Try.ntmps81
    go_wp2
    go_ret
    refine ⟨⟨_, rfl, ?_⟩, (by repeat (first | (with_reducible exact bR _) | (with_reducible refine bT ?_ (by assumption)) | (with_reducible apply bA) | (with_reducible apply bD) | (with_reducible apply bN) | (with_reducible refine bS ?_ (by first | omega | (simp; done) | (simp; omega)))))⟩
    rw [HN.out, if_neg HH.out]
    exact RdI.lit' (l := [a14, a11, a1, a0, a2, a3, a4, a5, a6, a7, a8, 0, a10]) (by simp)
set_option maxHeartbeats 4000000 in
set_option maxRecDepth 100000 in
theorem refFieldsPut_b1 (a0 a1 a2 a3 a4 a5 a6 a7 a8 a9 a10 a11 a12 a13 a14 : Int) (w : World) (E : Hid (fpE [a0, a1, a2, a3, a4, a5, a6, a7, a8, a9, a10, a11, a12, a13, a14] = ([], 1))) (hT : tkB a0 a1 a2 a3 a4 a5 a6 a7 a8 a9 a10 = false)  :
    Calls Try.prog 36 #[.agg #[.int .i64 a0, .int .i64 a1, .int .i64 a2, .int .i64 a3, .int .i64 a4, .int .i64 a5, .int .i64 a6, .int .i64 a7, .int .i64 a8, .int .i64 a9, .int .i64 a10, .int .i64 a11, .int .i64 a12, .int .i64 a13, .int .i64 a14]] w (FieldsRet (fpE [a0, a1, a2, a3, a4, a5, a6, a7, a8, a9, a10, a11, a12, a13, a14]) w) := by
  go_enter Try.func36, Try.ntmps36
  go_wp2_with (go_at_call 80; (with_reducible refine (refIs_any a0 a1 a2 a3 a4 a5 a6 a7 a8 a9 a10 _).mono ?_); rintro e w1 ⟨he, hb1⟩; rw [hT] at he; subst he; obtain ⟨hcb1, hfb1⟩ := bcell hb1; have hlt1 : w.heap.size + 1 < w1.heap.size := (by have := hb1.size; simp at this; omega); have HB1 := Lib.hid (bT (bA (bel1 w _) _) hb1); clear hb1)
  all_goals (go_ret2; exact ⟨_, [], by rw [E.out] <;> rfl, by rw [E.out] <;> rfl, OwnF.nil _ _, HB1.out⟩)

set_option maxHeartbeats 4000000 in
set_option maxRecDepth 100000 in
theorem refFieldsPut_b2 (a0 a1 a2 a3 a4 a5 a6 a7 a8 a9 a10 a11 a12 a13 a14 : Int) (w : World) (E : Hid (fpE [a0, a1, a2, a3, a4, a5, a6, a7, a8, a9, a10, a11, a12, a13, a14] = ([], 1))) (hT : tkB a0 a1 a2 a3 a4 a5 a6 a7 a8 a9 a10 = true) (d1 : decide (a11 < 0) = true)  :
    Calls Try.prog 36 #[.agg #[.int .i64 a0, .int .i64 a1, .int .i64 a2, .int .i64 a3, .int .i64 a4, .int .i64 a5, .int .i64 a6, .int .i64 a7, .int .i64 a8, .int .i64 a9, .int .i64 a10, .int .i64 a11, .int .i64 a12, .int .i64 a13, .int .i64 a14]] w (FieldsRet (fpE [a0, a1, a2, a3, a4, a5, a6, a7, a8, a9, a10, a11, a12, a13, a14]) w) := by
  go_enter Try.func36, Try.ntmps36
  go_wp2_with (go_at_call 80; (with_reducible refine (refIs_any a0 a1 a2 a3 a4 a5 a6 a7 a8 a9 a10 _).mono ?_); rintro e w1 ⟨he, hb1⟩; rw [hT] at he; subst he; obtain ⟨hcb1, hfb1⟩ := bcell hb1; have hlt1 : w.heap.size + 1 < w1.heap.size := (by have := hb1.size; simp at this; omega); have HB1 := Lib.hid (bT (bA (bel1 w _) _) hb1); clear hb1)
  all_goals (go_ret2; exact ⟨_, [], by rw [E.out] <;> rfl, by rw [E.out] <;> rfl, OwnF.nil _ _, HB1.out⟩)

set_option maxHeartbeats 4000000 in
set_option maxRecDepth 100000 in
theorem refFieldsPut_b3 (a0 a1 a2 a3 a4 a5 a6 a7 a8 a9 a10 a11 a12 a13 a14 : Int) (w : World) (E : Hid (fpE [a0, a1, a2, a3, a4, a5, a6, a7, a8, a9, a10, a11, a12, a13, a14] = ([], 1))) (hT : tkB a0 a1 a2 a3 a4 a5 a6 a7 a8 a9 a10 = true) (d1 : decide (a11 < 0) = false) (d2 : decide (99 < a11) = true)  :
    Calls Try.prog 36 #[.agg #[.int .i64 a0, .int .i64 a1, .int .i64 a2, .int .i64 a3, .int .i64 a4, .int .i64 a5, .int .i64 a6, .int .i64 a7, .int .i64 a8, .int .i64 a9, .int .i64 a10, .int .i64 a11, .int .i64 a12, .int .i64 a13, .int .i64 a14]] w (FieldsRet (fpE [a0, a1, a2, a3, a4, a5, a6, a7, a8, a9, a10, a11, a12, a13, a14]) w) := by
  go_enter Try.func36, Try.ntmps36
  go_wp2_with (go_at_call 80; (with_reducible refine (refIs_any a0 a1 a2 a3 a4 a5 a6 a7 a8 a9 a10 _).mono ?_); rintro e w1 ⟨he, hb1⟩; rw [hT] at he; subst he; obtain ⟨hcb1, hfb1⟩ := bcell hb1; have hlt1 : w.heap.size + 1 < w1.heap.size := (by have := hb1.size; simp at this; omega); have HB1 := Lib.hid (bT (bA (bel1 w _) _) hb1); clear hb1)
  all_goals (go_ret2; exact ⟨_, [], by rw [E.out] <;> rfl, by rw [E.out] <;> rfl, OwnF.nil _ _, HB1.out⟩)

set_option maxHeartbeats 4000000 in
set_option maxRecDepth 100000 in
theorem refFieldsPut_b4 (a0 a1 a2 a3 a4 a5 a6 a7 a8 a9 a10 a11 a12 a13 a14 : Int) (w : World) (E : Hid (fpE [a0, a1, a2, a3, a4, a5, a6, a7, a8, a9, a10, a11, a12, a13, a14] = ([], 1))) (hT : tkB a0 a1 a2 a3 a4 a5 a6 a7 a8 a9 a10 = true) (d1 : decide (a11 < 0) = false) (d2 : decide (99 < a11) = false) (d3 : (a12 == 0) = false)  :
    Calls Try.prog 36 #[.agg #[.int .i64 a0, .int .i64 a1, .int .i64 a2, .int .i64 a3, .int .i64 a4, .int .i64 a5, .int .i64 a6, .int .i64 a7, .int .i64 a8, .int .i64 a9, .int .i64 a10, .int .i64 a11, .int .i64 a12, .int .i64 a13, .int .i64 a14]] w (FieldsRet (fpE [a0, a1, a2, a3, a4, a5, a6, a7, a8, a9, a10, a11, a12, a13, a14]) w) := by
  go_enter Try.func36, Try.ntmps36
  go_wp2_with (go_at_call 80; (with_reducible refine (refIs_any a0 a1 a2 a3 a4 a5 a6 a7 a8 a9 a10 _).mono ?_); rintro e w1 ⟨he, hb1⟩; rw [hT] at he; subst he; obtain ⟨hcb1, hfb1⟩ := bcell hb1; have hlt1 : w.heap.size + 1 < w1.heap.size := (by have := hb1.size; simp at this; omega); have HB1 := Lib.hid (bT (bA (bel1 w _) _) hb1); clear hb1)
  all_goals (go_ret2; exact ⟨_, [], by rw [E.out] <;> rfl, by rw [E.out] <;> rfl, OwnF.nil _ _, HB1.out⟩)

set_option maxHeartbeats 4000000 in
set_option maxRecDepth 100000 in
theorem refFieldsPut_b5 (a0 a1 a2 a3 a4 a5 a6 a7 a8 a9 a10 a11 a12 a13 a14 : Int) (w : World) (E : Hid (fpE [a0, a1, a2, a3, a4, a5, a6, a7, a8, a9, a10, a11, a12, a13, a14] = ([], 1))) (hT : tkB a0 a1 a2 a3 a4 a5 a6 a7 a8 a9 a10 = true) (d1 : decide (a11 < 0) = false) (d2 : decide (99 < a11) = false) (d3 : (a12 == 0) = true) (d3b : (a13 == 0) = false)  :
    Calls Try.prog 36 #[.agg #[.int .i64 a0, .int .i64 a1, .int .i64 a2, .int .i64 a3, .int .i64 a4, .int .i64 a5, .int .i64 a6, .int .i64 a7, .int .i64 a8, .int .i64 a9, .int .i64 a10, .int .i64 a11, .int .i64 a12, .int .i64 a13, .int .i64 a14]] w (FieldsRet (fpE [a0, a1, a2, a3, a4, a5, a6, a7, a8, a9, a10, a11, a12, a13, a14]) w) := by
  go_enter Try.func36, Try.ntmps36
  go_wp2_with (go_at_call 80; (with_reducible refine (refIs_any a0 a1 a2 a3 a4 a5 a6 a7 a8 a9 a10 _).mono ?_); rintro e w1 ⟨he, hb1⟩; rw [hT] at he; subst he; obtain ⟨hcb1, hfb1⟩ := bcell hb1; have hlt1 : w.heap.size + 1 < w1.heap.size := (by have := hb1.size; simp at this; omega); have HB1 := Lib.hid (bT (bA (bel1 w _) _) hb1); clear hb1)
  all_goals (go_ret2; exact ⟨_, [], by rw [E.out] <;> rfl, by rw [E.out] <;> rfl, OwnF.nil _ _, HB1.out⟩)

set_option maxHeartbeats 4000000 in
set_option maxRecDepth 100000 in
theorem refFieldsPut_b6 (a0 a1 a2 a3 a4 a5 a6 a7 a8 a9 a10 a11 a12 a13 a14 : Int) (w : World) (E : Hid (fpE [a0, a1, a2, a3, a4, a5, a6, a7, a8, a9, a10, a11, a12, a13, a14] = ([], 1))) (hT : tkB a0 a1 a2 a3 a4 a5 a6 a7 a8 a9 a10 = true) (d1 : decide (a11 < 0) = false) (d2 : decide (99 < a11) = false) (d3 : (a12 == 0) = true) (d3b : (a13 == 0) = true) (d4 : decide (a14 < 1) = true)  :
    Calls Try.prog 36 #[.agg #[.int .i64 a0, .int .i64 a1, .int .i64 a2, .int .i64 a3, .int .i64 a4, .int .i64 a5, .int .i64 a6, .int .i64 a7, .int .i64 a8, .int .i64 a9, .int .i64 a10, .int .i64 a11, .int .i64 a12, .int .i64 a13, .int .i64 a14]] w (FieldsRet (fpE [a0, a1, a2, a3, a4, a5, a6, a7, a8, a9, a10, a11, a12, a13, a14]) w) := by
  go_enter Try.func36, Try.ntmps36
  go_wp2_with (go_at_call 80; (with_reducible refine (refIs_any a0 a1 a2 a3 a4 a5 a6 a7 a8 a9 a10 _).mono ?_); rintro e w1 ⟨he, hb1⟩; rw [hT] at he; subst he; obtain ⟨hcb1, hfb1⟩ := bcell hb1; have hlt1 : w.heap.size + 1 < w1.heap.size := (by have := hb1.size; simp at this; omega); have HB1 := Lib.hid (bT (bA (bel1 w _) _) hb1); clear hb1)
  all_goals (go_ret2; exact ⟨_, [], by rw [E.out] <;> rfl, by rw [E.out] <;> rfl, OwnF.nil _ _, HB1.out⟩)

set_option maxHeartbeats 4000000 in
set_option maxRecDepth 100000 in
theorem refFieldsPut_b7 (a0 a1 a2 a3 a4 a5 a6 a7 a8 a9 a10 a11 a12 a13 a14 : Int) (w : World) (E : Hid (fpE [a0, a1, a2, a3, a4, a5, a6, a7, a8, a9, a10, a11, a12, a13, a14] = ([], 1))) (hT : tkB a0 a1 a2 a3 a4 a5 a6 a7 a8 a9 a10 = true) (d1 : decide (a11 < 0) = false) (d2 : decide (99 < a11) = false) (d3 : (a12 == 0) = true) (d3b : (a13 == 0) = true) (d4 : decide (a14 < 1) = false) (d5 : decide (3 < a14) = true) :
    Calls Try.prog 36 #[.agg #[.int .i64 a0, .int .i64 a1, .int .i64 a2, .int .i64 a3, .int .i64 a4, .int .i64 a5, .int .i64 a6, .int .i64 a7, .int .i64 a8, .int .i64 a9, .int .i64 a10, .int .i64 a11, .int .i64 a12, .int .i64 a13, .int .i64 a14]] w (FieldsRet (fpE [a0, a1, a2, a3, a4, a5, a6, a7, a8, a9, a10, a11, a12, a13, a14]) w) := by
  go_enter Try.func36, Try.ntmps36
  go_wp2_with (go_at_call 80; (with_reducible refine (refIs_any a0 a1 a2 a3 a4 a5 a6 a7 a8 a9 a10 _).mono ?_); rintro e w1 ⟨he, hb1⟩; rw [hT] at he; subst he; obtain ⟨hcb1, hfb1⟩ := bcell hb1; have hlt1 : w.heap.size + 1 < w1.heap.size := (by have := hb1.size; simp at this; omega); have HB1 := Lib.hid (bT (bA (bel1 w _) _) hb1); clear hb1)
  all_goals (go_ret2; exact ⟨_, [], by rw [E.out] <;> rfl, by rw [E.out] <;> rfl, OwnF.nil _ _, HB1.out⟩)

end Go.Proofs.Ytachkhjbckapoaa

namespace Go.Proofs.Ytachkhjbckapoaa
open Go.RowKit
set_option linter.unusedVariables false
set_option maxRecDepth 100000
set_option linter.unusedSimpArgs false

theorem tlvB_app : ∀ (l : List Fd) (last : Int) (k : Nat) (hk : k < l.length), tlvB last (l.take k) = true →
    tlvB last l = ((!decide (l[k].tag ≤ (if h : 0 < k then (l[k-1]'(by omega)).tag else last)) && !decide (255 < l[k].tag) && !decide (255 < l[k].val.length)) && tlvB l[k].tag (l.drop (k + 1)))
  | [], last, k, hk, h => by simp at hk
  | x :: t, last, 0, hk, h => by
    simp only [tlvB_cons, List.getElem_cons_zero, Nat.lt_irrefl, dite_false, List.drop_succ_cons, List.drop_zero]
    by_cases h1 : x.tag ≤ last
    · simp [h1]
    · by_cases h2 : 255 < x.tag
      · simp [h1, h2]
      · by_cases h3 : 255 < x.val.length
        · simp [h1, h2, h3]
        · simp [h1, h2, h3]
  | x :: t, last, k + 1, hk, h => by
    rw [List.take_succ_cons, tlvB_cons] at h
    rw [tlvB_cons]
    by_cases h1 : x.tag ≤ last
    · simp [h1] at h
    · by_cases h2 : 255 < x.tag
      · simp [h1, h2] at h
      · by_cases h3 : 255 < x.val.length
        · simp [h1, h2, h3] at h
        · rw [if_neg h1, if_neg h2, if_neg h3] at h ⊢
          have ih := tlvB_app t x.tag k (by simpa using hk) h
          rw [ih]
          rcases k with _ | k
          · simp
          · simp
theorem tlvB_tags : ∀ (l : List Fd) (last : Int), tlvB last l = true → ∀ f ∈ l, last < f.tag
  | [], _, _, f, hf => by simp at hf
  | x :: t, last, h, f, hf => by
    rw [tlvB_cons] at h
    by_cases h1 : x.tag ≤ last
    · simp [h1] at h
    · rw [if_neg h1] at h
      by_cases h2 : 255 < x.tag
      · simp [h2] at h
      · rw [if_neg h2] at h
        by_cases h3 : 255 < x.val.length
        · simp [h3] at h
        · rw [if_neg h3] at h
          rcases List.mem_cons.1 hf with rfl | hf
          · omega
          · have := tlvB_tags t x.tag h f hf; omega
theorem tlvB_prev {l : List Fd} {k : Nat} (hk : k < l.length) (h : tlvB 0 (l.take k) = true) (h0 : 0 < k) : 0 < (l[k-1]'(by omega)).tag :=
  tlvB_tags _ _ h _ (by rw [List.mem_take_iff_getElem]; exact ⟨k - 1, by omega, rfl⟩)
theorem tlvB_bad {l : List Fd} {k : Nat} (hk : k < l.length) (h : tlvB 0 (l.take k) = true) (hb : l[k].tag < 1 ∨ 255 < l[k].tag ∨ 255 < l[k].val.length ∨ ∃ h0 : 0 < k, l[k].tag ≤ (l[k-1]'(by omega)).tag) : tlvB 0 l = false := by
  rw [tlvB_app l 0 k hk h]
  rcases hb with hb | hb | hb | ⟨h0, hb⟩
  · by_cases h0 : 0 < k
    · have := tlvB_prev hk h h0
      rw [dif_pos h0, decide_eq_true (show l[k].tag ≤ (l[k-1]'(by omega)).tag by omega)]; rfl
    · rw [dif_neg h0, decide_eq_true (show l[k].tag ≤ 0 by omega)]; rfl
  · rw [decide_eq_true hb]; simp
  · rw [decide_eq_true hb]; simp
  · rw [dif_pos h0, decide_eq_true hb]; rfl
theorem tlvB_snoc {l : List Fd} {k : Nat} (hk : k < l.length) (h : tlvB 0 (l.take k) = true) :
    tlvB 0 (l.take (k + 1)) = (!decide (l[k].tag ≤ (if h : 0 < k then (l[k-1]'(by omega)).tag else 0)) && !decide (255 < l[k].tag) && !decide (255 < l[k].val.length)) := by
  have := tlvB_app (l.take (k + 1)) 0 k (by rw [List.length_take]; omega) (by rw [List.take_take, Nat.min_eq_left (by omega)]; exact h)
  rw [this]
  have e : (l.take (k + 1)).drop (k + 1) = [] := List.drop_eq_nil_of_le (by rw [List.length_take]; omega)
  rw [e]
  simp [tlvB, List.getElem_take]

set_option maxHeartbeats 8000000 in
theorem refTlvIs_any (A : Option Addr) (c : Nat) (l : List Fd) (w : World) (hr : RdF w A l) (hl : l.length ≤ 9223372036854775807) :
    Calls Try.prog 84 #[.slice A l.length c] w fun e w' => e = .returned (.bool (tlvB 0 l)) ∧ Below w.heap.size w w' := by
  have HR := Lib.hid hr
  clear hr
  go_enter Try.func84, Try.ntmps84
  go_wp2
  go_loopw [3] (fun i wr => ∃ k : Nat, k ≤ l.length ∧ i = .int .i64 (k : Int) ∧ Hid (Below w.heap.size w wr) ∧ Hid (tlvB 0 (l.take k) = true)) (fun i _ => l.length - (intOf i).toNat)
  case atStart => exact ⟨0, Nat.zero_le _, rfl, Lib.hid (Below.refl _ _), Lib.hid rfl⟩
  case round =>
    obtain ⟨k, hk, rfl, HB, HT⟩ := hrel
    by_cases hlt : k < l.length
    · have hK := HR.out.below HB.out (Nat.le_refl _)
      rcases hK with h0 | ⟨ad, rfl, hadl, hka⟩
      · simp [h0] at hlt
      obtain ⟨B, c2, q0, q1, _⟩ := hka k hlt
      obtain ⟨f, hf⟩ : ∃ f, l[k] = f := ⟨_, rfl⟩
      have HGO : Hid True := Lib.hid trivial
      rw [hf] at q0 q1
      have HP : Hid (∀ j, j < l.length → ∃ pt, wr.cell? (ad.add (j * 2)) = some (.int .i64 pt) ∧ ∀ h : j < l.length, pt = l[j].tag) := Lib.hid (fun j hj => by
        obtain ⟨_, _, p0, _⟩ := hka j hj
        exact ⟨_, p0, fun _ => rfl⟩)
      have HF := Lib.hid hf
      obtain ⟨tg, vl⟩ := f
      obtain ⟨n, hn⟩ : ∃ n, vl.length = n := ⟨_, rfl⟩
      simp only [hn] at q0 q1
      have HN := Lib.hid hn
      clear hf hka hn
      have k0 : (0 : Int) ≤ (k : Int) := by omega
      have k1 : (k : Int) < (l.length : Int) := by omega
      by_cases h1 : tg < 1
      · have a1 : decide (tg < 1) = true := decide_eq_true h1
        have HE : Hid (tlvB 0 l = false) := Lib.hid (by exact tlvB_bad hlt HT.out (.inl (by rw [HF.out]; exact h1)))
        clear HGO HP HT
        go_wp2
        go_quiet (fail)
        go_wp2
        go_ret
        exact ⟨by rw [HE.out] <;> rfl, bT HB.out (bN (bR _) _)⟩
      have a1 : decide (tg < 1) = false := decide_eq_false h1
      by_cases h2 : 255 < tg
      · have a2 : decide (255 < tg) = true := decide_eq_true h2
        have HE : Hid (tlvB 0 l = false) := Lib.hid (by exact tlvB_bad hlt HT.out (.inr (.inl (by rw [HF.out]; exact h2))))
        clear HGO HP HT
        go_wp2
        go_quiet (fail)
        go_wp2
        go_ret
        exact ⟨by rw [HE.out] <;> rfl, bT HB.out (bN (bR _) _)⟩
      have a2 : decide (255 < tg) = false := decide_eq_false h2
      by_cases h3 : 255 < n
      · have a3 : decide ((255 : Int) < (n : Int)) = true := decide_eq_true (by omega)
        have HE : Hid (tlvB 0 l = false) := Lib.hid (by exact tlvB_bad hlt HT.out (.inr (.inr (.inl (by rw [HF.out]; rw [HN.out]; exact h3)))))
        clear HGO HP HT
        go_wp2
        go_quiet (fail)
        go_wp2
        go_ret
        exact ⟨by rw [HE.out] <;> rfl, bT HB.out (bN (bR _) _)⟩
      have a3 : decide ((255 : Int) < (n : Int)) = false := decide_eq_false (by omega)
      rcases Nat.eq_zero_or_pos k with hk0 | hk0
      · have d0 : decide ((0 : Int) < (k : Int)) = false := decide_eq_false (by omega)
        have d0' : decide (0 < k) = false := decide_eq_false (by omega)
        have HT2 : Hid (tlvB 0 (l.take (k + 1)) = true) := Lib.hid (by
          rw [tlvB_snoc hlt HT.out, HF.out, dif_neg (by omega)]; simp only [HN.out]; simp; omega)
        clear hk0
        clear HGO HP HT
        go_wp2
        go_quiet (fail)
        go_wp2
        go_roundw
        case rel => exact ⟨k + 1, by omega, by go_num, Lib.hid (bT HB.out (bN (bR _) _)), HT2⟩
        case measure => simp [intOf]; omega
      obtain ⟨j, hj⟩ : ∃ j, k = j + 1 := ⟨k - 1, by omega⟩
      obtain ⟨pt, p0, hp⟩ := HP.out j (by omega)
      have e1 : IntKind.i64.wrap ((k : Int) - 1) = (j : Int) := by rw [show ((k : Int) - 1) = (j : Int) by omega]; exact IntWalk.i64_in _ (by omega)
      have j0 : (0 : Int) ≤ (j : Int) := by omega
      have j1 : (j : Int) < (l.length : Int) := by omega
      have d0 : decide ((0 : Int) < (k : Int)) = true := decide_eq_true (by omega)
      have d0' : decide (0 < k) = true := decide_eq_true (by omega)
      have hpl : ∀ h : 0 < k, (l[k-1]'(by omega)).tag = pt := fun h => by
        rw [hp (by omega)]; congr 1; simp [hj]
      by_cases hle : tg ≤ pt
      · have dl : decide (tg ≤ pt) = true := decide_eq_true hle
        have HE : Hid (tlvB 0 l = false) := Lib.hid (by exact tlvB_bad hlt HT.out (.inr (.inr (.inr ⟨hk0, by rw [HF.out, hpl hk0]; exact hle⟩))))
        clear HGO HP HT hk0 hp hpl hj hle
        go_wp2
        go_quiet (fail)
        go_wp2
        go_ret
        exact ⟨by rw [HE.out] <;> rfl, bT HB.out (bN (bR _) _)⟩
      have dl : decide (tg ≤ pt) = false := decide_eq_false hle
      have HT2 : Hid (tlvB 0 (l.take (k + 1)) = true) := Lib.hid (by
        rw [tlvB_snoc hlt HT.out, HF.out, dif_pos hk0, hpl hk0]; simp only [HN.out]; simp; omega)
      clear hk0 hp hpl hj hle
      clear HGO HP HT
      go_wp2
      go_quiet (fail)
      go_wp2
      go_roundw
      case rel => exact ⟨k + 1, by omega, by go_num, Lib.hid (bT HB.out (bN (bR _) _)), HT2⟩
      case measure => simp [intOf]; omega
    · have HE : Hid (tlvB 0 l = true) := Lib.hid (by have h := HT.out; rw [List.take_of_length_le (by omega)] at h; exact h)
      have k1 : ¬ (k : Int) < (l.length : Int) := by omega
      go_wp2
      go_ret
      exact ⟨by rw [HE.out] <;> rfl, HB.out⟩
theorem dgB_last : ∀ (k : Nat) (n : Int), 0 ≤ n → dgB (k + 1) n = dgB k (n / 256) ++ [n % 256]
  | 0, n, h => by simp [dgB]
  | k + 1, n, h => by
    rw [dgB_succ, dgB_last k n h, dgB_succ, List.cons_append]
    congr 1
    rw [Int.pow_succ, Int.mul_comm, ← Int.ediv_ediv_of_nonneg (by decide)]
theorem strip_snoc : ∀ (l : List Int) (x : Int), strip (l ++ [x]) = if strip l = [] then (if x = 0 then [] else [x]) else strip l ++ [x]
  | [], x => by simp [strip]
  | y :: t, x => by
    rw [List.cons_append, strip_cons, strip_cons]
    by_cases h : y = 0
    · rw [if_pos h, if_pos h, strip_snoc t x]
    · rw [if_neg h, if_neg h]; simp
theorem strip_nil_iff : ∀ (l : List Int), strip l = [] → valN l 0 = 0
  | [], _ => rfl
  | y :: t, h => by
    rw [strip_cons] at h
    by_cases hy : y = 0
    · rw [if_pos hy] at h
      subst hy
      have := strip_nil_iff t h
      simpa [valN] using this
    · rw [if_neg hy] at h; cases h
theorem numL_zero : numL 0 = [] := by decide
theorem numL_step {n : Int} (h0 : 0 < n) (h9 : n ≤ 9223372036854775807) : numL n = numL (n / 256) ++ [n % 256] := by
  unfold numL
  rw [dgB_last 7 n (by omega), strip_snoc]
  have e := dg8_head (n := n / 256) (by omega) (by omega)
  rw [← e]
  split
  · rename_i h
    rw [h]
    have hv := strip_nil_iff _ h
    rw [valN_dg8 (by omega) (by omega)] at hv
    rw [if_neg (by omega)]; rfl
  · rfl
theorem numL_8 (n : Int) : (numL n).length ≤ 8 := by unfold numL; have := strip_len (dgB 8 n); rw [dgB_len] at this; exact this
set_option maxHeartbeats 4000000 in
theorem refNumber_any (n : Int) (w : World) (h0 : 0 ≤ n) (h9 : n ≤ 9223372036854775807) :
    Calls Try.prog 83 #[.int .i64 n] w fun e w' => (∃ (A : Option Addr) (c : Nat), e = .returned (.tuple #[.slice A (numL n).length c, .int .i64 0]) ∧ (numL n).length ≤ c ∧ c ≤ 9223372036854775807 ∧ RdI w' .u8 A (numL n) ∧ ∀ a, A = some a → w.heap.size ≤ a.block) ∧ Below w.heap.size w w' := by
  obtain ⟨i0, hi, hz0, hz1, hz2⟩ := info_parts infoB8
  go_enter Try.func83, Try.ntmps83
  go_wp2
  have HB0 := Lib.hid (bel1 w (.cells #[] 5))
  have HS0 := Lib.hid (show w.heap.size ≤ (w.alloc (.cells #[] 5)).heap.size by simp)
  generalize w.alloc (.cells #[] 5) = w1 at *
  go_loopw [0, 4] (fun v u wr => ∃ (m : Int) (acc : List Int) (A : Option Addr) (c : Nat), 0 ≤ m ∧ m ≤ n ∧ v = .int .i64 m ∧ u = .slice A acc.length c ∧ Hid (numL n = numL m ++ acc) ∧ Hid (acc.length ≤ c ∧ c ≤ 9223372036854775807) ∧ Hid (RdI wr .u8 A acc) ∧ Hid (∀ a, A = some a → w.heap.size ≤ a.block) ∧ Hid (Below w.heap.size w wr ∧ w.heap.size ≤ wr.heap.size)) (fun v _ _ => (intOf v).toNat)
  case atStart => exact ⟨n, [], _, _, h0, Int.le_refl _, rfl, rfl, Lib.hid (by simp), Lib.hid ⟨by simp, by omega⟩, Lib.hid (RdI.nil _ _ _), Lib.hid (fun a e => by rw [← Option.some.inj e]; exact Nat.le_refl _), Lib.hid ⟨HB0.out, HS0.out⟩⟩
  case round =>
    obtain ⟨m, acc, A, c, hm0, hmn, rfl, rfl, HN, HC, HR, HNE, HB⟩ := hrel
    by_cases hp : 0 < m
    · obtain ⟨x, hx⟩ : ∃ x, m % 256 = x := ⟨_, rfl⟩
      obtain ⟨y, hy⟩ : ∃ y, m / 256 = y := ⟨_, rfl⟩
      have HN2 : Hid (numL n = numL y ++ ([x] ++ acc)) := Lib.hid (by rw [HN.out, numL_step hp (by omega), hx, hy, List.append_assoc])
      have hl8 : acc.length ≤ 8 := by have := numL_8 n; rw [HN.out, List.length_append] at this; omega
      have HL8 := Lib.hid hl8
      have hx2 : 0 ≤ x ∧ x < 256 := by omega
      have hy2 : 0 ≤ y ∧ y < m := by omega
      obtain ⟨hx3, hx4⟩ := hx2
      clear hl8
      go_wp2_with (at_builtin; go_loud (refine wpL_app (k := .u8) rfl _ _ 30 rfl wr.heap.size 5 i0 (.int .u8 0) 1 Try.underlying30 hi hz0 hz1 hz2 rfl _ ([x]) rfl (own_lit1 _ _ _ _) _ _ acc rfl (HR.out.below (bel1 _ _)) ?_ ?_ ?_ ?_; (focus (have := HL8.out; refine maxLen_ge ?_; (try simp only [List.length_cons, List.length_nil]); omega)); (focus (have := HL8.out; (try simp only [List.length_cons, List.length_nil]); omega)); (focus (rw [World.size_alloc]; omega)); intro v3 w3 ho hg hk; have HB3 := Lib.hid (own_next2 (w' := w3) HB.out.1 HB.out.2 hg); have HO3 := Lib.hid ho; obtain ⟨A4, c4, hv3, hc4, hc5⟩ := own_slice HO3.out; subst hv3; have HR3 := Lib.hid (rd_of_own HO3.out); have HC3 := Lib.hid (show _ ∧ c4 ≤ 9223372036854775807 from ⟨hc4, by unfold maxLen at hc5; omega⟩); have HNE3 := Lib.hid (show ∀ a, A4 = some a → w.heap.size ≤ a.block from fun a e => Nat.le_trans HB.out.2 (own_ge HO3.out a.block (by rw [e]; rfl))); clear ho hg hk HO3 hc4 hc5))
      go_roundw
      case rel => exact ⟨y, [x] ++ acc, A4, c4, hy2.1, by omega, by rw [← hy], rfl, HN2, HC3, HR3, HNE3, HB3⟩
      case measure => simp [intOf]; omega
    · obtain rfl : m = 0 := by omega
      have hE : acc = numL n := by rw [HN.out, numL_zero]; rfl
      subst hE
      go_wp2
      go_ret2
      exact ⟨⟨A, c, rfl, HC.out.1, HC.out.2, HR.out, HNE.out⟩, HB.out.1⟩
theorem putF_snoc (l : List Fd) (k : Nat) (hk : k < l.length) : putF (l.take (k + 1)) = (putF (l.take k) ++ [l[k].tag, (l[k].val.length : Int)]) ++ l[k].val := by
  unfold putF; rw [List.take_succ_eq_append_getElem hk, List.flatMap_append]; simp
theorem rputF_len : ∀ (l : List Fd), (∀ f ∈ l, f.val.length ≤ 255) → (putF l).length ≤ 257 * l.length
  | [], _ => by simp [putF]
  | f :: t, h => by
    have h1 := h f (by simp)
    have h2 := rputF_len t (fun g hg => h g (by simp [hg]))
    rw [putF_cons]
    simp only [List.length_cons, List.length_append]
    omega
theorem cell2_keep {W w9 : World} {a1 a2 : Addr} {v1 v2 : Value} (hb : Below W.heap.size W w9) (h : W.cell? a1 = some v1 ∧ W.cell? a2 = some v2) : w9.cell? a1 = some v1 ∧ w9.cell? a2 = some v2 := ⟨keepc_rw hb h.1, keepc_rw hb h.2⟩
set_option maxHeartbeats 4000000 in
theorem refTlvPut_any (A : Option Addr) (c : Nat) (l : List Fd) (w : World) (hr : RdF w A l) (hl : l.length ≤ 9223372036854775807) :
    Calls Try.prog 38 #[.slice A l.length c] w (ByteRetE (putE17 l) w) := by
  obtain ⟨i0, hi, hz0, hz1, hz2⟩ := info_parts infoB8
  have hI := fun W hW => refTlvIs_any A c l W hW hl
  have HR := Lib.hid hr
  cases hz : tlvB 0 l with
  | false =>
    have E1 := Lib.hid (show putE17 l = ([], 1) by unfold putE17; rw [hz]; rfl)
    rw [hz] at hI
    clear hz
    go_enter Try.func38, Try.ntmps38
    go_wp2_with (go_at_call 84; (with_reducible refine (hI _ hr).mono ?_); rintro e w' ⟨rfl, hb⟩)
    go_ret2
    exact ⟨_, by rw [E1.out] <;> rfl, by rw [E1.out]; exact World.ownsRow_nil _ _ _ _, hb⟩
  | true =>
    have hfs := tlvB_facts l 0 hz (by omega)
    have E1 := Lib.hid (show putE17 l = (putF l, 0) by unfold putE17; rw [hz]; rfl)
    rw [hz] at hI
    have HFS := Lib.hid hfs
    clear hz hfs
    go_enter Try.func38, Try.ntmps38
    go_wp2_with (go_at_call 84; (with_reducible refine (hI _ hr).mono ?_); rintro e w' ⟨rfl, hb⟩)
    have HB0 := Lib.hid (show Below w.heap.size w (w'.alloc (.cells #[] 5)) from bA hb _)
    have HO0 : Hid ((w'.alloc (.cells #[] 5)).ownsRow w.heap.size 5 1 (.slice (some ⟨w'.heap.size, 0, none⟩) 0 0) (putF (l.take 0)).length ((putF (l.take 0)).map (.int .u8))) := Lib.hid (own_base (own_lit0 w' 5 .u8) hb.size)
    generalize w'.alloc (.cells #[] 5) = w1 at *
    clear hb hr hI
    go_loopw [4, 5] (fun v i wr => ∃ k : Nat, k ≤ l.length ∧ i = .int .i64 (k : Int) ∧ Hid (wr.ownsRow w.heap.size 5 1 v (putF (l.take k)).length ((putF (l.take k)).map (.int .u8))) ∧ Hid (Below w.heap.size w wr)) (fun _ i _ => l.length - (intOf i).toNat)
    case atStart => exact ⟨0, Nat.zero_le _, rfl, HO0, HB0⟩
    case round =>
      obtain ⟨k, hk, rfl, HO, HB⟩ := hrel
      by_cases hlt : k < l.length
      · rcases HR.out with h0 | ⟨ad, rfl, hadl, hka⟩
        · simp [h0] at hlt
        obtain ⟨B, c2, p0, p1, p2, p3, p4, p5⟩ := hka k hlt
        have hf := HFS.out.2 l[k] (List.getElem_mem hlt)
        have HSN := Lib.hid (putF_snoc l k hlt)
        have hlen : (putF (l.take k)).length ≤ 70000 := by
          have h1 := rputF_len (l.take k) (fun f hf => (HFS.out.2 f (List.mem_of_mem_take hf)).2.2)
          have h2 := HFS.out.1
          rw [List.length_take] at h1
          omega
        generalize l[k] = f at *
        obtain ⟨tg, vl⟩ := f
        obtain ⟨D, hD⟩ : ∃ D, putF (l.take k) = D := ⟨_, rfl⟩
        have ho := HO.out
        rw [hD] at ho hlen HSN
        have q0 := keepc_rw HB.out p0
        have q1 := keepc_rw HB.out p1
        have z0 : IntKind.u8.wrap tg = tg := by rw [IntKind.wrap_u8]; simp only at hf; omega
        have z1 : IntKind.u8.wrap (vl.length : Int) = (vl.length : Int) := by rw [IntKind.wrap_u8]; simp only at hf; omega
        have HR2 := Lib.hid (show ∀ (W : World) (t : TypeId), RdI (W.alloc (.cells #[.int .u8 tg, .int .u8 (vl.length : Int)] t)).drew .u8 (some ⟨W.heap.size, 0, none⟩) [tg, (vl.length : Int)] from fun W t => RdI.lit W .u8 [tg, (vl.length : Int)] t)
        have HOD := Lib.hid (show ∀ o : Obj, (wr.alloc o).drew.ownsRow w.heap.size 5 1 u4 D.length (D.map (.int .u8)) from fun o => ho.alloc o)
        have HBD := Lib.hid (show ∀ o : Obj, Below w.heap.size w (wr.alloc o).drew from fun o => bD (bA HB.out o))
        have HOG := Lib.hid (own_ge ho)
        have HC := Lib.hid (show w.cell? (ad.add (k * 2)) = some (.int .i64 tg) ∧ w.cell? ⟨(ad.add (k * 2)).block, (ad.add (k * 2)).off + 1, none⟩ = some (.slice B vl.length c2) from ⟨p0, p1⟩)
        have hqd : wr.drew.cell? (ad.add (k * 2)) = some (.int .i64 tg) ∧ wr.drew.cell? ⟨(ad.add (k * 2)).block, (ad.add (k * 2)).off + 1, none⟩ = some (.slice B vl.length c2) := ⟨q0, q1⟩
        have hsz := HB.out.size
        have HL := Lib.hid hlen
        have HP4 := Lib.hid p4
        have k0 : (0 : Int) ≤ (k : Int) := by omega
        have k1 : (k : Int) < (l.length : Int) := by omega
        have HV := Lib.hid (show vl.length ≤ 255 from hf.2.2)
        clear hD ho q0 q1 p0 p1 p2 p3 p4 p5 hka hf hlen HO
        go_wp2
        go_region_held3 (fun w9 => w9.cell? (ad.add (k * 2)) = some (.int .i64 tg) ∧ w9.cell? ⟨(ad.add (k * 2)).block, (ad.add (k * 2)).off + 1, none⟩ = some (.slice B vl.length c2)) (first | assumption | exact cell2_keep (HBD.out _) HC.out) ((rw [if_pos (by rfl)]; go_loud (refine wpO_appr (k := .u8) _ _ 30 rfl w.heap.size 5 i0 (.int .u8 0) 1 Try.underlying30 hi hz0 hz1 hz2 rfl u4 D rfl (HOD.out _) _ 2 [tg, (vl.length : Int)] rfl (HR2.out _ _) ?_ ?_ ?_ ?_; (focus (have := HL.out; exact maxLen_ge (by simp only [List.length_cons, List.length_nil]; omega))); (focus (have := HL.out; simp only [List.length_cons, List.length_nil]; omega)); (focus (have := hsz; simp; omega)); intro v2 w2 ho2 hg2 _; have h2 := bG (HBD.out _) hg2 HOG.out; have h3 := cell2_keep h2 HC.out)))
        have HO2 := Lib.hid ho2
        have HH2 := Lib.hid h2
        have HPV := HP4.out.below h2
        clear hg2 ho2
        go_wp2_with (at_builtin; go_loud (refine wpL_app (k := .u8) rfl _ _ 30 rfl w.heap.size 5 i0 (.int .u8 0) 1 Try.underlying30 hi hz0 hz1 hz2 rfl v2 (D ++ [tg, (vl.length : Int)]) rfl HO2.out _ _ vl rfl HPV ?_ ?_ ?_ ?_; (focus (have := HL.out; have := HV.out; refine maxLen_ge ?_; (try simp only [List.length_append, List.length_cons, List.length_nil]); omega)); (focus (have := HL.out; have := HV.out; (try simp only [List.length_append, List.length_cons, List.length_nil]); omega)); (focus (exact HH2.out.size)); intro v5 w5 ho5 hg5 _; have HO5 := Lib.hid ho5; have HB5 := Lib.hid (bG HH2.out hg5 (own_ge HO2.out)); clear ho5 hg5))
        go_roundw
        case rel => exact ⟨k + 1, by omega, by go_num, Lib.hid (by rw [HSN.out]; exact HO5.out), HB5⟩
        case measure => simp [intOf]; omega
      · have k1 : ¬ (k : Int) < (l.length : Int) := by omega
        have ho := HO.out
        rw [List.take_of_length_le (by omega)] at ho
        have HE := Lib.hid ho
        clear ho HO
        go_wp2
        go_ret2
        exact ⟨_, by rw [E1.out] <;> rfl, by rw [E1.out]; exact HE.out, HB.out⟩
end Go.Proofs.Ytachkhjbckapoaa

namespace Go.Proofs.Ytachkhjbckapoaa
open Go.RowKit
set_option linter.unusedVariables false
set_option maxRecDepth 100000
set_option linter.unusedSimpArgs false

theorem pres_step {c : List Int} {m : Nat} {acc : List Fd} {t : Int} (ht : 13 - (m : Int) = t) : fpGo c (m + 1) acc = if pres c t = 0 then fpGo c m acc else if c.getD 14 0 < nameE t then ([], 18) else fpGo c m (acc ++ [⟨t, numL (pres c t)⟩]) := by
  rw [fpGo_succ, ht]
  have hm : m = 1 ↔ t = 12 := by omega
  by_cases h1 : t = 12 ∧ c.getD 1 0 ≠ 4
  · have e : pres c t = 0 := by unfold pres; rw [if_pos h1]
    rw [e, if_pos rfl]
    by_cases h0 : c.getD (plc t) 0 = 0
    · rw [if_pos h0]
    · rw [if_neg h0, if_pos ⟨hm.2 h1.1, h1.2⟩]
  · have e : pres c t = c.getD (plc t) 0 := by unfold pres; rw [if_neg h1]
    rw [e]
    by_cases h0 : c.getD (plc t) 0 = 0
    · rw [if_pos h0, if_pos h0]
    · rw [if_neg h0, if_neg (fun h => h1 ⟨hm.1 h.1, h.2⟩), if_neg h0]
theorem own_litF (w : World) (e : TypeId) : (w.alloc (.cells #[] e)).ownsRow w.heap.size e 2 (.slice (some ⟨w.heap.size, 0, none⟩) 0 0) 0 [] :=
  World.ownsRow_lit w #[] 0 (Nat.le_refl _) (by simp [maxLen]) (by simp)
set_option maxHeartbeats 8000000 in
set_option maxRecDepth 100000 in
theorem refFieldsPut_ok (a0 a1 a2 a3 a4 a5 a6 a7 a8 a9 a10 a11 a12 a13 a14 : Int) (w : World) (hR : readB [a0, a1, a2, a3, a4, a5, a6, a7, a8, a9, a10, a11, a12, a13, a14] = true)
    (hT : tkB a0 a1 a2 a3 a4 a5 a6 a7 a8 a9 a10 = true) (d1 : decide (a11 < 0) = false) (d2 : decide (99 < a11) = false) (d3 : a12 = 0) (d3' : a13 = 0) (d4 : decide (a14 < 1) = false) (d5 : decide (3 < a14) = false) :
    Calls Try.prog 36 #[.agg #[.int .i64 a0, .int .i64 a1, .int .i64 a2, .int .i64 a3, .int .i64 a4, .int .i64 a5, .int .i64 a6, .int .i64 a7, .int .i64 a8, .int .i64 a9, .int .i64 a10, .int .i64 a11, .int .i64 a12, .int .i64 a13, .int .i64 a14]] w (FieldsRet (fpE [a0, a1, a2, a3, a4, a5, a6, a7, a8, a9, a10, a11, a12, a13, a14]) w) := by
  obtain ⟨i0, hi, hz0, hz1, hz2⟩ := info_parts infoFd
  subst d3 d3'
  have EF := Lib.hid (show fpE [a0, a1, a2, a3, a4, a5, a6, a7, a8, a9, a10, a11, 0, 0, a14] = fpGo [a0, a1, a2, a3, a4, a5, a6, a7, a8, a9, a10, a11, 0, 0, a14] 13 [] by unfold fpE; rw [if_pos hR])
  have HN := Lib.hid (nums_bound hR)
  clear hR
  obtain ⟨rv, hrv⟩ : ∃ rv, fpE [a0, a1, a2, a3, a4, a5, a6, a7, a8, a9, a10, a11, 0, 0, a14] = rv := ⟨_, rfl⟩
  rw [hrv] at EF ⊢
  clear hrv
  have hnum := fun W => refNumbers_any a0 a1 a2 a3 a4 a5 a6 a7 a8 a9 a10 a11 0 0 a14 W
  obtain ⟨c, hcl⟩ : ∃ c : List Int, [a0, a1, a2, a3, a4, a5, a6, a7, a8, a9, a10, a11, 0, 0, a14] = c := ⟨_, rfl⟩
  have h14 : c.getD 14 0 = a14 := by rw [← hcl]; rfl
  rw [hcl] at EF HN hnum
  clear hcl
  go_enter Try.func36, Try.ntmps36
  go_wp2_with (first | (go_at_call 80; (with_reducible refine (refIs_any a0 a1 a2 a3 a4 a5 a6 a7 a8 a9 a10 _).mono ?_); rintro e w1 ⟨he, hb1⟩; rw [hT] at he; subst he; obtain ⟨hcb1, hfb1⟩ := bcell hb1; have hlt1 : w.heap.size + 1 < w1.heap.size := (by have := hb1.size; simp at this; omega); have HB1 := Lib.hid (bT (bA (bel1 w _) _) hb1); have hvc : w1.cell? ⟨w.heap.size, 14, none⟩ = some (.int .i64 a14) := (by rw [hcb1 _ _ (by simp; omega)]; exact keep_cell (bel1 _ _) (cell_of_row _ _ 14 _ _ _ (heap_alloc_new w _))); have HVC := Lib.hid hvc; clear hb1) | (go_at_call 81; (with_reducible refine (hnum _).mono ?_); rintro e w2 ⟨⟨nad, rfl, hnr⟩, hb2⟩; have HV2 := Lib.hid (keep_cell hb2 HVC.out); have HNR := Lib.hid hnr; have HB2 := Lib.hid (bT HB1.out hb2); clear hb2 hnr hcb1 hfb1))
  have HO0 : Hid (OwnF w2.heap.size (w2.alloc (.cells #[] 67)) (.slice (some ⟨w2.heap.size, 0, none⟩) 0 0) []) := Lib.hid ⟨own_litF w2 _, by simp⟩
  have HBL := Lib.hid (bel1 w2 (.cells #[] 67))
  generalize w2.alloc (.cells #[] 67) = w3 at *
  have H14 := Lib.hid h14
  have HLT1 := Lib.hid hlt1
  clear h14 hvc hT d1 d2 d4 d5 hlt1 hnum
  go_loopw [6, 7] (fun out i wr => ∃ (k m : Nat) (L : List Fv), Hid (k + m = 13) ∧ i = .int .i64 (k : Int) ∧ Hid (OwnF w2.heap.size wr out L) ∧ Hid (L.length ≤ k) ∧ Hid (fpGo c m (L.map (·.f)) = fpGo c 13 []) ∧ Hid (Below w2.heap.size w2 wr)) (fun _ i _ => 13 - (intOf i).toNat)
  case atStart => exact ⟨0, 13, [], Lib.hid rfl, rfl, HO0, Lib.hid (Nat.le_refl _), Lib.hid rfl, HBL⟩
  case round =>
    clear HO0 HBL
    obtain ⟨k, m, L, HKM, rfl, HO, HLL, HQ, HB⟩ := hrel
    cases m with
    | zero =>
      obtain rfl : k = 13 := by have := HKM.out; omega
      have HE := Lib.hid (EF.out.trans (HQ.out.symm.trans (show fpGo c 0 (L.map (·.f)) = (L.map (·.f), 0) from rfl)))
      clear EF HQ
      simp only [Int.cast_ofNat_Int]
      go_wp2
      go_ret2
      exact ⟨_, L, by rw [HE.out] <;> rfl, by rw [HE.out], HO.out.mono HB2.out.size, bT HB2.out HB.out⟩
    | succ m =>
      have hk : k < 13 := by have := HKM.out; omega
      have ht : 13 - (m : Int) = (k : Int) + 1 := by have := HKM.out; omega
      have e := HQ.out
      rw [pres_step ht] at e
      have hx : 0 ≤ pres c ((k : Int) + 1) ∧ pres c ((k : Int) + 1) ≤ 9223372036854775807 := by
        have := HN.out ((k : Int) + 1) (by omega) (by omega)
        unfold pres
        split <;> omega
      have hkd : (k : Int) < 13 := by omega
      obtain ⟨ad', ha', cx⟩ := (HNR.out.below HB.out).at_ (j := k) (by rw [numsL_len]; exact hk)
      obtain rfl := Option.some.inj ha'
      rw [numsL_at hk] at cx
      have cv := keep_cell HB.out HV2.out
      rw [H14.out] at e
      have hnm := fun W => refName_any ((k : Int) + 1) W
      generalize pres c ((k : Int) + 1) = x at *
      generalize nameE ((k : Int) + 1) = nv at *
      generalize nameB ((k : Int) + 1) = nb at *
      have HE := Lib.hid e
      have HLL2 := HLL.out
      clear e ht ha' HQ
      by_cases g1 : x = 0
      · subst g1
        have e := HE.out
        rw [if_pos rfl] at e
        have HX := Lib.hid e
        clear HE e
        go_wp2_with (go_at_call 82; (with_reducible refine (hnm _).mono ?_); rintro e w4 ⟨rfl, rfl⟩)
        go_roundw
        case rel => exact ⟨k + 1, m, L, Lib.hid (by have := HKM.out; omega), by go_num, HO, Lib.hid (by omega), HX, HB⟩
        case measure => simp [intOf]; omega
      have dx : (x != 0) = true := by simpa using g1
      have e := HE.out
      rw [if_neg g1] at e
      have HE := Lib.hid e
      clear e
      by_cases g2 : a14 < nv
      · have e := HE.out
        rw [if_pos g2] at e
        have HX := Lib.hid (EF.out.trans e.symm)
        clear HE e
        go_wp2_with (go_at_call 82; (with_reducible refine (hnm _).mono ?_); rintro e w4 ⟨rfl, rfl⟩)
        go_ret2
        exact ⟨_, [], by rw [HX.out] <;> rfl, by rw [HX.out] <;> rfl, OwnF.nil _ _, bT HB2.out HB.out⟩
      · have e := HE.out
        rw [if_neg g2] at e
        have HX := Lib.hid e
        clear HE e
        go_wp2_with (first | (go_at_call 82; (with_reducible refine (hnm _).mono ?_); rintro e w4 ⟨rfl, rfl⟩) | (go_at_call 83; (with_reducible refine (refNumber_any _ _ hx.1 hx.2).mono ?_); rintro e w5 ⟨⟨B, cB, rfl, hBl, hBc, hBr, hBf⟩, hb5⟩; have HO5 := HO.out.below hb5; have HB5 := Lib.hid (bTg HB.out hb5 HB.out.size); have hz5 := HB5.out.size) | (at_builtin; go_loud (refine wpList_append_own_at _ rfl _ _ 50 rfl w2.heap.size 67 i0 (.agg #[.int .i64 0, .slice none 0 0]) 2 32 Try.underlying50 hi hz0 hz1 hz2 rfl (by decide) _ L.length (fvCells L) rfl (HO5.below (bel1 _ _)).1 ⟨w5.heap.size, 0, none⟩ 1 1 [.int .i64 ((k : Int) + 1), .slice B (numL x).length cB] rfl rfl (fcells_new _ _ _) ?_ ?_ ?_ ?_ ?_); (focus (go_loud (simp [Value.oneCell']))); (focus (go_loud (exact maxLen_ge (by omega)))); (focus (go_loud (omega))); (focus (simp; omega)); intro v6 w6 ho6 hg6 _ ha6; have HL6 := Lib.hid (OwnF.app (x := ⟨⟨(k : Int) + 1, numL x⟩, B, cB⟩) (HO5.below (bel1 _ _)) ⟨hBl, hBc, hBr.below (bel1 _ _), numL_byte _, .inr fun a ha => ⟨Nat.le_trans HB.out.size (hBf a ha), fun h => absurd ((HO.out.1.lt _ h.symm).2) (Nat.not_lt.2 (hBf a ha))⟩⟩ ho6 hg6 ha6); have HB6 := Lib.hid ((HB5.out.alloc hz5 _).grown hg6 (by rw [World.size_alloc]; omega) (own_ge HO5.1)); clear ho6 hg6 ha6))
        go_roundw
        case rel => exact ⟨k + 1, m, L ++ [⟨⟨(k : Int) + 1, numL x⟩, B, cB⟩], Lib.hid (by have := HKM.out; omega), by go_num, HL6, Lib.hid (by rw [List.length_append]; simp; omega), Lib.hid (by have h := HX.out; rw [← h, List.map_append]; rfl), HB6⟩
        case measure => simp [intOf]; omega
theorem refFieldsPut_any (a0 a1 a2 a3 a4 a5 a6 a7 a8 a9 a10 a11 a12 a13 a14 : Int) (w : World) :
    Calls Try.prog 36 #[.agg #[.int .i64 a0, .int .i64 a1, .int .i64 a2, .int .i64 a3, .int .i64 a4, .int .i64 a5, .int .i64 a6, .int .i64 a7, .int .i64 a8, .int .i64 a9, .int .i64 a10, .int .i64 a11, .int .i64 a12, .int .i64 a13, .int .i64 a14]] w (FieldsRet (fpE [a0, a1, a2, a3, a4, a5, a6, a7, a8, a9, a10, a11, a12, a13, a14]) w) := by
  have hno : readB [a0, a1, a2, a3, a4, a5, a6, a7, a8, a9, a10, a11, a12, a13, a14] = false → Hid (fpE [a0, a1, a2, a3, a4, a5, a6, a7, a8, a9, a10, a11, a12, a13, a14] = ([], 1)) := fun h => Lib.hid (by unfold fpE; rw [h]; rfl)
  have hrd : readB [a0, a1, a2, a3, a4, a5, a6, a7, a8, a9, a10, a11, a12, a13, a14] = (tkB a0 a1 a2 a3 a4 a5 a6 a7 a8 a9 a10 && (decide (0 ≤ a11) && decide (a11 < 100)) && (decide (a12 = 0) && decide (a13 = 0)) && (decide (1 ≤ a14) && decide (a14 ≤ 3))) := rfl
  cases hT : tkB a0 a1 a2 a3 a4 a5 a6 a7 a8 a9 a10 with
  | false => exact refFieldsPut_b1 a0 a1 a2 a3 a4 a5 a6 a7 a8 a9 a10 a11 a12 a13 a14 w (hno (by rw [hrd, hT]; rfl)) hT
  | true =>
    by_cases h1 : a11 < 0
    · exact refFieldsPut_b2 a0 a1 a2 a3 a4 a5 a6 a7 a8 a9 a10 a11 a12 a13 a14 w (hno (by rw [hrd, decide_eq_false (p := 0 ≤ a11) (by omega)]; simp)) hT (by simpa using h1)
    by_cases h2 : 99 < a11
    · exact refFieldsPut_b3 a0 a1 a2 a3 a4 a5 a6 a7 a8 a9 a10 a11 a12 a13 a14 w (hno (by rw [hrd, decide_eq_false (p := a11 < 100) (by omega)]; simp)) hT (by simpa using h1) (by simpa using h2)
    by_cases h3 : a12 = 0
    rotate_left
    · exact refFieldsPut_b4 a0 a1 a2 a3 a4 a5 a6 a7 a8 a9 a10 a11 a12 a13 a14 w (hno (by rw [hrd, decide_eq_false h3]; simp)) hT (by simpa using h1) (by simpa using h2) (by simpa using h3)
    by_cases h3b : a13 = 0
    rotate_left
    · exact refFieldsPut_b5 a0 a1 a2 a3 a4 a5 a6 a7 a8 a9 a10 a11 a12 a13 a14 w (hno (by rw [hrd, decide_eq_false h3b]; simp)) hT (by simpa using h1) (by simpa using h2) (by simpa using h3) (by simpa using h3b)
    by_cases h4 : a14 < 1
    · exact refFieldsPut_b6 a0 a1 a2 a3 a4 a5 a6 a7 a8 a9 a10 a11 a12 a13 a14 w (hno (by rw [hrd, decide_eq_false (p := 1 ≤ a14) (by omega)]; simp)) hT (by simpa using h1) (by simpa using h2) (by simpa using h3) (by simpa using h3b) (by simpa using h4)
    by_cases h5 : 3 < a14
    · exact refFieldsPut_b7 a0 a1 a2 a3 a4 a5 a6 a7 a8 a9 a10 a11 a12 a13 a14 w (hno (by rw [hrd, decide_eq_false (p := a14 ≤ 3) (by omega)]; simp)) hT (by simpa using h1) (by simpa using h2) (by simpa using h3) (by simpa using h3b) (by simpa using h4) (by simpa using h5)
    exact refFieldsPut_ok a0 a1 a2 a3 a4 a5 a6 a7 a8 a9 a10 a11 a12 a13 a14 w (by rw [hrd, hT, decide_eq_true (p := 0 ≤ a11) (by omega), decide_eq_true (p := a11 < 100) (by omega), decide_eq_true h3, decide_eq_true h3b, decide_eq_true (p := 1 ≤ a14) (by omega), decide_eq_true (p := a14 ≤ 3) (by omega)]; rfl) hT (by simpa using h1) (by simpa using h2) h3 h3b (by simpa using h4) (by simpa using h5)
end Go.Proofs.Ytachkhjbckapoaa

namespace Go.Proofs.Ytachkhjbckapoaa
open Go.RowKit
set_option linter.unusedVariables false
set_option maxRecDepth 100000
set_option linter.unusedSimpArgs false

theorem refSigns_any (w : World) : Calls Try.prog 85 #[] w fun e w' => e = .returned (.string { data := #[48, 49, 50, 51, 52, 53, 54, 55, 56, 57, 65, 66, 67, 68, 69, 70, 71, 72, 73, 74, 75, 76, 77, 78, 79, 80, 81, 82, 83, 84, 85, 86, 87, 88, 89, 90, 32, 36, 37, 42, 43, 45, 46, 47, 58] }) ∧ w = w' := by
  go_enter Try.func85, Try.ntmps85
  go_wp2
  go_ret
  exact ⟨rfl, rfl⟩
theorem fortyPut_two : ∀ (l : List Int) (k : Nat), k % 2 = 0 → k + 1 < l.length → fortyPut (l.take (k + 2)) = fortyPut (l.take k) ++ [sg45 ((256 * l.getD k 0 + l.getD (k + 1) 0) % 45), sg45 ((256 * l.getD k 0 + l.getD (k + 1) 0) / 45 % 45), sg45 ((256 * l.getD k 0 + l.getD (k + 1) 0) / 2025)]
  | x :: y :: t, 0, _, _ => by
    have e : (256 * x + y) / 2025 = (256 * x + y) / 45 / 45 := by omega
    simp [fortyPut, e]
  | x :: y :: t, k + 2, h2, hk => by
    have ih := fortyPut_two t k (by omega) (by simp at hk; omega)
    simp only [List.take_succ_cons, fortyPut, List.cons_append] at ih ⊢
    rw [ih]
    simp [List.getD_eq_getElem?_getD]
  | [], k, _, hk => by simp at hk
  | [x], k, _, hk => by simp at hk
  | x :: y :: t, 1, h2, _ => by omega
theorem fortyPut_one : ∀ (l : List Int) (k : Nat), k % 2 = 0 → k + 1 = l.length → fortyPut l = fortyPut (l.take k) ++ [sg45 (l.getD k 0 % 45), sg45 (l.getD k 0 / 45)]
  | [x], 0, _, _ => by simp [fortyPut]
  | x :: y :: t, k + 2, h2, hk => by
    have ih := fortyPut_one t k (by omega) (by simp at hk; omega)
    simp only [List.take_succ_cons, fortyPut, List.cons_append] at ih ⊢
    rw [ih]
    simp [List.getD_eq_getElem?_getD]
  | [], k, _, hk => by simp at hk
  | [x], k + 1, _, hk => by simp at hk
  | x :: y :: t, 0, _, hk => by simp at hk
  | x :: y :: t, 1, h2, _ => by omega
set_option maxHeartbeats 8000000 in
theorem refFortyPut_any (A : Option Addr) (c : Nat) (l : List Int) (w : World) (hr : RdI w .u8 A l) (hl : l.length ≤ 1000000) (hb : ∀ x ∈ l, 0 ≤ x ∧ x < 256) :
    Calls Try.prog 39 #[.slice A l.length c] w (ByteRet (fortyPut l) w) := by
  obtain ⟨i0, hi, hz0, hz1, hz2⟩ := info_parts infoB8
  have HR := Lib.hid hr
  have HBY := Lib.hid hb
  clear hr hb
  go_enter Try.func39, Try.ntmps39
  go_wp2_with (go_at_call 85; (with_reducible refine (refSigns_any _).mono ?_); rintro e w4 ⟨rfl, rfl⟩)
  have HO0 : Hid ((w.alloc (.cells #[] 5)).ownsRow w.heap.size 5 1 (.slice (some ⟨w.heap.size, 0, none⟩) 0 0) (fortyPut (l.take 0)).length ((fortyPut (l.take 0)).map (.int .u8))) := Lib.hid (own_lit0 w 5 .u8)
  have HB0 := Lib.hid (bel1 w (.cells #[] 5))
  generalize w.alloc (.cells #[] 5) = w1 at *
  go_loopw [4, 5] (fun v i wr => ∃ k : Nat, Hid (k % 2 = 0) ∧ k ≤ l.length + 1 ∧ i = .int .i64 (k : Int) ∧ Hid (wr.ownsRow w.heap.size 5 1 v (fortyPut (l.take k)).length ((fortyPut (l.take k)).map (.int .u8))) ∧ Hid (Below w.heap.size w wr)) (fun _ i _ => l.length + 1 - (intOf i).toNat)
  case atStart => exact ⟨0, Lib.hid rfl, Nat.zero_le _, rfl, HO0, HB0⟩
  case round =>
    clear HO0 HB0
    obtain ⟨k, HE, hk, rfl, HO, HB⟩ := hrel
    have hsz := HB.out.size
    have HSZ := Lib.hid hsz
    have hlen : (fortyPut (l.take k)).length ≤ 2000000 := by rw [fortyPut_len, List.length_take]; omega
    have HLEN := Lib.hid hlen
    clear hlen hsz
    by_cases hlt : k < l.length
    · have k0 : (0 : Int) ≤ (k : Int) := by omega
      have k1 : (k : Int) < (l.length : Int) := by omega
      obtain ⟨ad, rfl, c0⟩ := HR.out.at_ (j := k) hlt
      have q0 := keepc_rw HB.out c0
      have hx := HBY.out _ (getD_mem hlt)
      by_cases h2 : k + 1 < l.length
      · have k2 : (k : Int) + 1 < (l.length : Int) := by omega
        obtain ⟨ad', ha', c1⟩ := HR.out.at_ (j := k + 1) h2
        obtain rfl := Option.some.inj ha'
        have q1 := keepc_rw HB.out c1
        rw [add_succ] at q1
        have hy := HBY.out _ (getD_mem h2)
        have HSN := Lib.hid (fortyPut_two l k HE.out h2)
        have n1 : ((k : Int) + 1).toNat = k + 1 := by omega
        have e1 : IntKind.i64.wrap ((k : Int) + 1) = (k : Int) + 1 := IntWalk.i64_in _ (by omega)
        have b1 : (0 : Int) ≤ (k : Int) + 1 := by omega
        generalize l.getD k 0 = x at *
        generalize l.getD (k + 1) 0 = y at *
        have e2 : IntKind.i64.wrap (256 * x) = 256 * x := IntWalk.i64_in _ (by omega)
        have e3 : IntKind.i64.wrap (256 * x + y) = 256 * x + y := IntWalk.i64_in _ (by omega)
        clear c0 c1 ha'
        go_wp2
        go_quiet (fail)
        go_wp2
        have hfo : ∀ (a b c : Int) (W : World) (t : TypeId), RdI (W.alloc (.cells #[.int .u8 a, .int .u8 b, .int .u8 c] t)).drew .u8 (some ⟨W.heap.size, 0, none⟩) [a, b, c] := fun a b c W t => RdI.lit W .u8 [a, b, c] t
        obtain ⟨nn, hnn⟩ : ∃ nn, 256 * x + y = nn := ⟨_, rfl⟩
        rw [hnn] at HSN ⊢
        have hn0 : 0 ≤ nn := by omega
        have hn9 : nn < 65536 := by omega
        have i1 := fun w => idx_signs (z := nn % 45) (by omega) (by omega) w
        have i2 := fun w => idx_signs (z := nn / 45 % 45) (by omega) (by omega) w
        have i3 := fun w => idx_signs (z := nn / 2025) (by omega) (by omega) w
        rw [← Int.tmod_eq_emod_of_nonneg hn0] at i1
        rw [← Int.tmod_eq_emod_of_nonneg (show 0 ≤ nn / 45 by omega)] at i2
        have e4 : nn.tdiv 45 = nn / 45 := Int.tdiv_eq_ediv_of_nonneg hn0
        have e5 : nn.tdiv 2025 = nn / 2025 := Int.tdiv_eq_ediv_of_nonneg hn0
        have e6 : IntKind.i64.wrap (nn / 45) = nn / 45 := IntWalk.i64_in _ (by omega)
        have e7 : IntKind.i64.wrap (nn / 2025) = nn / 2025 := IntWalk.i64_in _ (by omega)
        have HI1 := Lib.hid (show sg45 (nn.tmod 45) = sg45 (nn % 45) by rw [Int.tmod_eq_emod_of_nonneg hn0])
        have HI2 := Lib.hid (show sg45 ((nn / 45).tmod 45) = sg45 (nn / 45 % 45) by rw [Int.tmod_eq_emod_of_nonneg (by omega)])
        obtain ⟨s1, hs1⟩ : ∃ s, sg45 (nn % 45) = s := ⟨_, rfl⟩
        obtain ⟨s2, hs2⟩ : ∃ s, sg45 (nn / 45 % 45) = s := ⟨_, rfl⟩
        obtain ⟨s3, hs3⟩ : ∃ s, sg45 (nn / 2025) = s := ⟨_, rfl⟩
        rw [hs1, hs2, hs3] at HSN
        rw [hs1] at HI1
        rw [hs2] at HI2
        rw [HI1.out] at i1
        rw [HI2.out] at i2
        rw [hs3] at i3
        obtain ⟨D, hD⟩ : ∃ D, fortyPut (l.take k) = D := ⟨_, rfl⟩
        have ho := HO.out
        rw [hD] at ho HLEN HSN
        have hw : Below w.heap.size w (wr.drewN nq) := bNg HB.out nq
        have ho : (wr.drewN nq).ownsRow w.heap.size 5 1 u4 D.length (D.map (.int .u8)) := own_below ho (bNg (Below.refl _ _) nq)
        generalize wr.drewN nq = wq at *
        have HOD := Lib.hid (show ∀ o : Obj, (wq.alloc o).drew.ownsRow w.heap.size 5 1 u4 D.length (D.map (.int .u8)) from fun o => ho.alloc o)
        have HBD := Lib.hid (show ∀ o : Obj, Below w.heap.size w (wq.alloc o).drew from fun o => bD (bA hw o))
        have HOG := Lib.hid (own_ge ho)
        have hsz := hw.size
        clear hnn hs1 hs2 hs3 hD ho HO hx hy e1 e2 e3 q0 q1 n1 b1 k2
        go_region_held3 (fun w9 => True) (trivial) ((rw [if_pos (by rfl)]; go_loud (refine wpO_appr (k := .u8) _ _ 30 rfl w.heap.size 5 i0 (.int .u8 0) 1 Try.underlying30 hi hz0 hz1 hz2 rfl u4 D rfl (HOD.out _) _ 3 [s1, s2, s3] rfl (hfo _ _ _ _ _) ?_ ?_ ?_ ?_; (focus (have := HLEN.out; exact maxLen_ge (by simp only [List.length_cons, List.length_nil]; omega))); (focus (have := HLEN.out; simp only [List.length_cons, List.length_nil]; omega)); (focus (simp; omega)); intro v2 w2 ho2 hg2 _; have h2 := bG (HBD.out _) hg2 HOG.out)))
        all_goals
          have HO2 := Lib.hid ho2
          clear hg2 ho2
          go_wp2
          go_roundw
          case rel => exact ⟨k + 2, Lib.hid (by have := HE.out; omega), by omega, by go_num, Lib.hid (by rw [HSN.out]; exact HO2.out), Lib.hid h2⟩
          case measure => simp [intOf]; omega
      · have hkl : k + 1 = l.length := by omega
        have k2 : ¬ (k : Int) + 1 < (l.length : Int) := by omega
        have HSN := Lib.hid (fortyPut_one l k HE.out hkl)
        generalize l.getD k 0 = x at *
        clear c0
        have hfo : ∀ (a b : Int) (W : World) (t : TypeId), RdI (W.alloc (.cells #[.int .u8 a, .int .u8 b] t)).drew .u8 (some ⟨W.heap.size, 0, none⟩) [a, b] := fun a b W t => RdI.lit W .u8 [a, b] t
        have hn0 : 0 ≤ x := hx.1
        have hn9 : x < 256 := hx.2
        have i1 := fun w => idx_signs (z := x % 45) (by omega) (by omega) w
        have i2 := fun w => idx_signs (z := x / 45) (by omega) (by omega) w
        rw [← Int.tmod_eq_emod_of_nonneg hn0] at i1
        have e4 : x.tdiv 45 = x / 45 := Int.tdiv_eq_ediv_of_nonneg hn0
        have e6 : IntKind.i64.wrap (x / 45) = x / 45 := IntWalk.i64_in _ (by omega)
        have HI1 := Lib.hid (show sg45 (x.tmod 45) = sg45 (x % 45) by rw [Int.tmod_eq_emod_of_nonneg hn0])
        obtain ⟨s1, hs1⟩ : ∃ s, sg45 (x % 45) = s := ⟨_, rfl⟩
        obtain ⟨s2, hs2⟩ : ∃ s, sg45 (x / 45) = s := ⟨_, rfl⟩
        rw [hs1, hs2] at HSN
        rw [hs1] at HI1
        rw [HI1.out] at i1
        rw [hs2] at i2
        obtain ⟨D, hD⟩ : ∃ D, fortyPut (l.take k) = D := ⟨_, rfl⟩
        have ho := HO.out
        rw [hD] at ho HLEN HSN
        have hw := HB.out
        have HOD := Lib.hid (show ∀ o : Obj, (wr.alloc o).drew.ownsRow w.heap.size 5 1 u4 D.length (D.map (.int .u8)) from fun o => ho.alloc o)
        have HBD := Lib.hid (show ∀ o : Obj, Below w.heap.size w (wr.alloc o).drew from fun o => bD (bA hw o))
        have HOG := Lib.hid (own_ge ho)
        have hsz := hw.size
        have HKL := Lib.hid hkl
        clear hs1 hs2 hD ho HO hkl hx h2
        go_wp2
        go_region_held3 (fun w9 => True) (trivial) ((rw [if_pos (by rfl)]; go_loud (refine wpO_appr (k := .u8) _ _ 30 rfl w.heap.size 5 i0 (.int .u8 0) 1 Try.underlying30 hi hz0 hz1 hz2 rfl u4 D rfl (HOD.out _) _ 2 [s1, s2] rfl (hfo _ _ _ _) ?_ ?_ ?_ ?_; (focus (have := HLEN.out; exact maxLen_ge (by simp only [List.length_cons, List.length_nil]; omega))); (focus (have := HLEN.out; simp only [List.length_cons, List.length_nil]; omega)); (focus (simp; omega)); intro v2 w2 ho2 hg2 _; have h2 := bG (HBD.out _) hg2 HOG.out)))
        all_goals
          have HO2 := Lib.hid ho2
          clear hg2 ho2
          go_wp2
          go_roundw
          case rel => exact ⟨k + 2, Lib.hid (by have := HE.out; omega), by omega, by go_num, Lib.hid (by rw [List.take_of_length_le (show l.length ≤ k + 2 by have := HKL.out; omega), HSN.out]; exact HO2.out), Lib.hid h2⟩
          case measure => simp [intOf]; omega
    · have k1 : ¬ (k : Int) < (l.length : Int) := by omega
      have ho := HO.out
      rw [List.take_of_length_le (by omega)] at ho
      have HOE := Lib.hid ho
      clear ho HO
      go_wp2
      go_ret
      exact ⟨_, rfl, HOE.out, HB.out⟩
end Go.Proofs.Ytachkhjbckapoaa

namespace Go.Proofs.Ytachkhjbckapoaa
open Go.RowKit
set_option linter.unusedVariables false
set_option maxRecDepth 100000
set_option linter.unusedSimpArgs false

set_option maxHeartbeats 4000000 in
theorem refRight_n (id fr til : Int) (sec : List Int) (B : Option Addr) (n c : Nat) (hn : sec.length = n) (w : World) :
    Calls Try.prog 79 #[.agg #[.int .i64 id, .slice B n c, .int .i64 fr, .int .i64 til]] w fun e w' => e = .returned (.bool (rightB ⟨id, sec, fr, til⟩)) ∧ Below w.heap.size w w' := by
  by_cases h0 : 0 ≤ id
  rotate_left
  · have E := Lib.hid (show rightB ⟨id, sec, fr, til⟩ = false by unfold rightB; rw [wB_no (.inl (by simp; omega))]; rfl)
    clear hn
    go_enter Try.func79, Try.ntmps79
    go_wp2
    go_ret
    exact ⟨by rw [E.out] <;> rfl, (by repeat (first | (with_reducible exact bR _) | (with_reducible refine bT ?_ (by assumption)) | (with_reducible apply bA) | (with_reducible apply bD) | (with_reducible apply bN) | (with_reducible refine bS ?_ (by first | omega | (simp; done) | (simp; omega)))))⟩
  by_cases h1 : id ≤ 99
  rotate_left
  · have E := Lib.hid (show rightB ⟨id, sec, fr, til⟩ = false by unfold rightB; rw [wB_no (.inr (by simp; omega))]; rfl)
    clear hn
    go_enter Try.func79, Try.ntmps79
    go_wp2
    go_ret
    exact ⟨by rw [E.out] <;> rfl, (by repeat (first | (with_reducible exact bR _) | (with_reducible refine bT ?_ (by assumption)) | (with_reducible apply bA) | (with_reducible apply bD) | (with_reducible apply bN) | (with_reducible refine bS ?_ (by first | omega | (simp; done) | (simp; omega)))))⟩
  by_cases h2 : 1 ≤ n
  rotate_left
  · have E := Lib.hid (show rightB ⟨id, sec, fr, til⟩ = false by simp [rightB, hn]; omega)
    have d2 : ¬ (1 : Int) ≤ (n : Int) := by omega
    clear hn
    go_enter Try.func79, Try.ntmps79
    go_wp2
    go_ret
    exact ⟨by rw [E.out] <;> rfl, (by repeat (first | (with_reducible exact bR _) | (with_reducible refine bT ?_ (by assumption)) | (with_reducible apply bA) | (with_reducible apply bD) | (with_reducible apply bN) | (with_reducible refine bS ?_ (by first | omega | (simp; done) | (simp; omega)))))⟩
  have d2 : (1 : Int) ≤ (n : Int) := by omega
  by_cases h3 : n ≤ 64
  rotate_left
  · have E := Lib.hid (show rightB ⟨id, sec, fr, til⟩ = false by simp [rightB, hn]; omega)
    have d3 : ¬ (n : Int) ≤ 64 := by omega
    clear hn
    go_enter Try.func79, Try.ntmps79
    go_wp2
    go_ret
    exact ⟨by rw [E.out] <;> rfl, (by repeat (first | (with_reducible exact bR _) | (with_reducible refine bT ?_ (by assumption)) | (with_reducible apply bA) | (with_reducible apply bD) | (with_reducible apply bN) | (with_reducible refine bS ?_ (by first | omega | (simp; done) | (simp; omega)))))⟩
  have d3 : (n : Int) ≤ 64 := by omega
  by_cases h4 : 0 ≤ fr
  rotate_left
  · have E := Lib.hid (show rightB ⟨id, sec, fr, til⟩ = false by simp [rightB, h4])
    clear hn
    go_enter Try.func79, Try.ntmps79
    go_wp2
    go_ret
    exact ⟨by rw [E.out] <;> rfl, (by repeat (first | (with_reducible exact bR _) | (with_reducible refine bT ?_ (by assumption)) | (with_reducible apply bA) | (with_reducible apply bD) | (with_reducible apply bN) | (with_reducible refine bS ?_ (by first | omega | (simp; done) | (simp; omega)))))⟩
  by_cases h5 : fr ≤ til
  rotate_left
  · have E := Lib.hid (show rightB ⟨id, sec, fr, til⟩ = false by simp [rightB, h5])
    clear hn
    go_enter Try.func79, Try.ntmps79
    go_wp2
    go_ret
    exact ⟨by rw [E.out] <;> rfl, (by repeat (first | (with_reducible exact bR _) | (with_reducible refine bT ?_ (by assumption)) | (with_reducible apply bA) | (with_reducible apply bD) | (with_reducible apply bN) | (with_reducible refine bS ?_ (by first | omega | (simp; done) | (simp; omega)))))⟩
  by_cases h6 : til ≤ 99999
  rotate_left
  · have E := Lib.hid (show rightB ⟨id, sec, fr, til⟩ = false by simp [rightB, h6])
    clear hn
    go_enter Try.func79, Try.ntmps79
    go_wp2
    go_ret
    exact ⟨by rw [E.out] <;> rfl, (by repeat (first | (with_reducible exact bR _) | (with_reducible refine bT ?_ (by assumption)) | (with_reducible apply bA) | (with_reducible apply bD) | (with_reducible apply bN) | (with_reducible refine bS ?_ (by first | omega | (simp; done) | (simp; omega)))))⟩
  have E := Lib.hid (show rightB ⟨id, sec, fr, til⟩ = true by unfold rightB; rw [wB_mk h0 h1]; simp [hn]; omega)
  clear hn
  go_enter Try.func79, Try.ntmps79
  go_wp2
  go_ret
  exact ⟨by rw [E.out] <;> rfl, (by repeat (first | (with_reducible exact bR _) | (with_reducible refine bT ?_ (by assumption)) | (with_reducible apply bA) | (with_reducible apply bD) | (with_reducible apply bN) | (with_reducible refine bS ?_ (by first | omega | (simp; done) | (simp; omega)))))⟩
theorem kp {W w9 : World} {a : Addr} {v : Value} (hb : Below W.heap.size W w9) (hc : W.cell? a = some v) : w9.cell? a = some v := (hb.cell (World.block_lt_of_cell? W a hc)).trans hc
theorem keepK0 {wr W w9 : World} {ad : Addr} {k n c2 : Nat} {id fr til : Int} {B : Option Addr} (h : Below wr.heap.size wr W ∧ W.cell? (ad.add (k * 4)) = some (.int .i64 id) ∧ W.cell? ⟨(ad.add (k * 4)).block, (ad.add (k * 4)).off + 1, none⟩ = some (.slice B n c2) ∧ W.cell? ⟨(ad.add (k * 4)).block, (ad.add (k * 4)).off + 2, none⟩ = some (.int .i64 fr) ∧ W.cell? ⟨(ad.add (k * 4)).block, (ad.add (k * 4)).off + 3, none⟩ = some (.int .i64 til)) (hb : Below W.heap.size W w9) : Below wr.heap.size wr w9 ∧ w9.cell? (ad.add (k * 4)) = some (.int .i64 id) ∧ w9.cell? ⟨(ad.add (k * 4)).block, (ad.add (k * 4)).off + 1, none⟩ = some (.slice B n c2) ∧ w9.cell? ⟨(ad.add (k * 4)).block, (ad.add (k * 4)).off + 2, none⟩ = some (.int .i64 fr) ∧ w9.cell? ⟨(ad.add (k * 4)).block, (ad.add (k * 4)).off + 3, none⟩ = some (.int .i64 til) :=
  ⟨bT h.1 hb, kp hb h.2.1, kp hb h.2.2.1, kp hb h.2.2.2.1, kp hb h.2.2.2.2⟩
theorem keepK1 {wr W w9 : World} {ad : Addr} {k j n c2 : Nat} {id fr til pid : Int} {B : Option Addr} (h : Below wr.heap.size wr W ∧ W.cell? (ad.add (k * 4)) = some (.int .i64 id) ∧ W.cell? ⟨(ad.add (k * 4)).block, (ad.add (k * 4)).off + 1, none⟩ = some (.slice B n c2) ∧ W.cell? ⟨(ad.add (k * 4)).block, (ad.add (k * 4)).off + 2, none⟩ = some (.int .i64 fr) ∧ W.cell? ⟨(ad.add (k * 4)).block, (ad.add (k * 4)).off + 3, none⟩ = some (.int .i64 til) ∧ W.cell? (ad.add (j * 4)) = some (.int .i64 pid)) (hb : Below W.heap.size W w9) : Below wr.heap.size wr w9 ∧ w9.cell? (ad.add (k * 4)) = some (.int .i64 id) ∧ w9.cell? ⟨(ad.add (k * 4)).block, (ad.add (k * 4)).off + 1, none⟩ = some (.slice B n c2) ∧ w9.cell? ⟨(ad.add (k * 4)).block, (ad.add (k * 4)).off + 2, none⟩ = some (.int .i64 fr) ∧ w9.cell? ⟨(ad.add (k * 4)).block, (ad.add (k * 4)).off + 3, none⟩ = some (.int .i64 til) ∧ w9.cell? (ad.add (j * 4)) = some (.int .i64 pid) :=
  ⟨bT h.1 hb, kp hb h.2.1, kp hb h.2.2.1, kp hb h.2.2.2.1, kp hb h.2.2.2.2.1, kp hb h.2.2.2.2.2⟩
theorem ringGo_take : ∀ (l : List Ky) (last : Int) (k : Nat) (hk : k < l.length), ringGo last (l.take k) = true → ringGo last l = (rightB l[k] && decide ((if h : 0 < k then (l[k-1]'(by omega)).id else last) < l[k].id) && ringGo l[k].id (l.drop (k + 1)))
  | [], last, k, hk, h => by simp at hk
  | x :: t, last, 0, hk, h => by simp [ringGo_cons]
  | x :: t, last, k + 1, hk, h => by
    rw [List.take_succ_cons, ringGo_cons, Bool.and_eq_true] at h
    have ih := ringGo_take t x.id k (by simpa using hk) h.2
    rw [ringGo_cons, h.1, Bool.true_and, ih]
    rcases k with _ | k
    · simp
    · simp
set_option maxHeartbeats 8000000 in
theorem refRingIs_any (A : Option Addr) (c : Nat) (l : List Ky) (w : World) (hr : RdK w A l) (hl : l.length ≤ 9223372036854775807) :
    Calls Try.prog 35 #[.slice A l.length c] w fun e w' => e = .returned (.bool (ringB l)) ∧ Below w.heap.size w w' := by
  have HR := Lib.hid hr
  clear hr
  go_enter Try.func35, Try.ntmps35
  go_wp2
  go_loopw [3] (fun i wr => ∃ k : Nat, k ≤ l.length ∧ i = .int .i64 (k : Int) ∧ Hid (Below w.heap.size w wr) ∧ Hid (ringGo (-1) (l.take k) = true)) (fun i _ => l.length - (intOf i).toNat)
  case atStart => exact ⟨0, Nat.zero_le _, rfl, Lib.hid (Below.refl _ _), Lib.hid rfl⟩
  case round =>
    obtain ⟨k, hk, rfl, HB, HT⟩ := hrel
    by_cases hlt : k < l.length
    · have hK := HR.out.below HB.out (Nat.le_refl _)
      rcases hK with h0 | ⟨ad, rfl, hadl, hka⟩
      · simp [h0] at hlt
      obtain ⟨B, c2, q0, q1, q2, q3, _⟩ := hka k hlt
      obtain ⟨ky, hky⟩ : ∃ ky, l[k] = ky := ⟨_, rfl⟩
      have HGO := Lib.hid (ringGo_take l (-1) k hlt HT.out)
      rw [hky] at q0 q1 q2 q3 HGO
      have HP : Hid (∀ j, j < l.length → ∃ pid, wr.cell? (ad.add (j * 4)) = some (.int .i64 pid) ∧ ∀ h : j < l.length, pid = l[j].id) := Lib.hid (fun j hj => by
        obtain ⟨_, _, p0, _⟩ := hka j hj
        exact ⟨_, p0, fun _ => rfl⟩)
      have HKY := Lib.hid hky
      obtain ⟨id, sec, fr, til⟩ := ky
      obtain ⟨n, hn⟩ : ∃ n, sec.length = n := ⟨_, rfl⟩
      have hR := fun W => refRight_n id fr til sec B n c2 hn W
      simp only [hn] at q1
      have HN := Lib.hid hn
      clear hky hka hn
      have k0 : (0 : Int) ≤ (k : Int) := by omega
      have k1 : (k : Int) < (l.length : Int) := by omega
      cases hrb : rightB ⟨id, sec, fr, til⟩ with
      | false =>
        have HE : Hid (ringB l = false) := Lib.hid (by unfold ringB; rw [HGO.out, hrb]; rfl)
        rw [hrb] at hR
        have hS : Below wr.heap.size wr wr ∧ wr.cell? (ad.add (k * 4)) = some (.int .i64 id) ∧ wr.cell? ⟨(ad.add (k * 4)).block, (ad.add (k * 4)).off + 1, none⟩ = some (.slice B n c2) ∧ wr.cell? ⟨(ad.add (k * 4)).block, (ad.add (k * 4)).off + 2, none⟩ = some (.int .i64 fr) ∧ wr.cell? ⟨(ad.add (k * 4)).block, (ad.add (k * 4)).off + 3, none⟩ = some (.int .i64 til) := ⟨Below.refl _ _, q0, q1, q2, q3⟩
        clear q0 q1 q2 q3 HGO HP hrb
        go_wp2
        refine wp_region_held_drew (S := fun w9 => Below wr.heap.size wr w9 ∧ w9.cell? (ad.add (k * 4)) = some (.int .i64 id) ∧ w9.cell? ⟨(ad.add (k * 4)).block, (ad.add (k * 4)).off + 1, none⟩ = some (.slice B n c2) ∧ w9.cell? ⟨(ad.add (k * 4)).block, (ad.add (k * 4)).off + 2, none⟩ = some (.int .i64 fr) ∧ w9.cell? ⟨(ad.add (k * 4)).block, (ad.add (k * 4)).off + 3, none⟩ = some (.int .i64 til)) (by kernel_rfl) ⟨hS.1.drew, hS.2⟩ (fun hHeld => ?_)
        refine wpAnyH_take (i := 0) (oi := ?_) (v := ?_) ?hiu1 (by as_aux_lemma => kernel_rfl) (by as_aux_lemma => kernel_rfl) (by as_aux_lemma => kernel_rfl) ?hQu1 (Or.inl ⟨?hwu1, ?hyu1⟩) hHeld ?restu1
        case hiu1 => simp only [List.getElem?_toArray, List.getElem?_cons_zero, List.getElem?_cons_succ]; rfl
        case hwu1 => rfl
        case hyu1 => (intro w9 hSw; (try dsimp only at hSw); go_simp; (try with_reducible rfl))
        case hQu1 => exact fun _ _ _ h => h
        (try simp only [Act.put, List.setIfInBounds_toArray, List.set_cons_zero, List.set_cons_succ])
        refine wpAnyH_take (i := 1) (oi := ?_) (v := ?_) ?hiu2 (by as_aux_lemma => kernel_rfl) (by as_aux_lemma => kernel_rfl) (by as_aux_lemma => kernel_rfl) ?hQu2 (Or.inl ⟨?hwu2, ?hyu2⟩) hHeld ?restu2
        case hiu2 => simp only [List.getElem?_toArray, List.getElem?_cons_zero, List.getElem?_cons_succ]; rfl
        case hwu2 => rfl
        case hyu2 => (intro w9 hSw; (try dsimp only at hSw); go_simp; (try with_reducible rfl))
        case hQu2 => exact fun _ _ _ h => h
        (try simp only [Act.put, List.setIfInBounds_toArray, List.set_cons_zero, List.set_cons_succ])
        refine wpAnyH_take (i := 2) (oi := ?_) (v := ?_) ?hiu3 (by as_aux_lemma => kernel_rfl) (by as_aux_lemma => kernel_rfl) (by as_aux_lemma => kernel_rfl) ?hQu3 (Or.inl ⟨?hwu3, ?hyu3⟩) hHeld ?restu3
        case hiu3 => simp only [List.getElem?_toArray, List.getElem?_cons_zero, List.getElem?_cons_succ]; rfl
        case hwu3 => rfl
        case hyu3 => (intro w9 hSw; (try dsimp only at hSw); go_simp; (try with_reducible rfl))
        case hQu3 => exact fun _ _ _ h => h
        (try simp only [Act.put, List.setIfInBounds_toArray, List.set_cons_zero, List.set_cons_succ])
        refine wpAnyH_take (i := 3) (oi := ?_) (v := ?_) ?hiu4 (by as_aux_lemma => kernel_rfl) (by as_aux_lemma => kernel_rfl) (by as_aux_lemma => kernel_rfl) ?hQu4 (Or.inl ⟨?hwu4, ?hyu4⟩) hHeld ?restu4
        case hiu4 => simp only [List.getElem?_toArray, List.getElem?_cons_zero, List.getElem?_cons_succ]; rfl
        case hwu4 => rfl
        case hyu4 => (intro w9 hSw; (try dsimp only at hSw); go_simp; (try with_reducible rfl))
        case hQu4 => exact fun _ _ _ h => h
        (try simp only [Act.put, List.setIfInBounds_toArray, List.set_cons_zero, List.set_cons_succ])
        refine wpAnyH_ready (rs := [4]) (by as_aux_lemma => kernel_rfl) (by simp) (AllReadyH.cons (o := ?_) ?hiu5 (fun K hK => ?_) AllReadyH.nil)
        case hiu5 => simp only [List.getElem?_toArray, List.getElem?_cons_zero, List.getElem?_cons_succ]; rfl
        (try rw [if_pos (by rfl)])
        go_wp2_with fail
        refine (hR _).mono ?_
        rintro e w5 ⟨rfl, hb5⟩
        dsimp only
        refine hK.out _ _ ?_ (fun hHeld => ?_)
        · exact keepK0 hHeld hb5
        clear hK K
        (try simp only [Act.put, List.setIfInBounds_toArray, List.set_cons_zero, List.set_cons_succ])
        refine wpAnyH_take (i := 5) (oi := ?_) (v := ?_) ?hiu6 (by as_aux_lemma => kernel_rfl) (by as_aux_lemma => kernel_rfl) (by as_aux_lemma => kernel_rfl) ?hQu6 (Or.inl ⟨?hwu6, ?hyu6⟩) hHeld ?restu6
        case hiu6 => simp only [List.getElem?_toArray, List.getElem?_cons_zero, List.getElem?_cons_succ]; rfl
        case hwu6 => rfl
        case hyu6 => (intro w9 hSw; (try dsimp only at hSw); go_simp; (try with_reducible rfl))
        case hQu6 => exact fun _ _ _ h => h
        (try simp only [Act.put, List.setIfInBounds_toArray, List.set_cons_zero, List.set_cons_succ])
        refine wpAnyH_take (i := 6) (oi := ?_) (v := ?_) ?hiu7 (by as_aux_lemma => kernel_rfl) (by as_aux_lemma => kernel_rfl) (by as_aux_lemma => kernel_rfl) ?hQu7 (Or.inl ⟨?hwu7, ?hyu7⟩) hHeld ?restu7
        case hiu7 => simp only [List.getElem?_toArray, List.getElem?_cons_zero, List.getElem?_cons_succ]; rfl
        case hwu7 => rfl
        case hyu7 => (intro w9 hSw; (try dsimp only at hSw); go_simp; (try with_reducible rfl))
        case hQu7 => exact fun _ _ _ h => h
        (try simp only [Act.put, List.setIfInBounds_toArray, List.set_cons_zero, List.set_cons_succ])
        refine wpAnyH_take (i := 7) (oi := ?_) (v := undef) ?hiu8 (by as_aux_lemma => kernel_rfl) (by as_aux_lemma => kernel_rfl) (by as_aux_lemma => kernel_rfl) ?hQu8 (Or.inr ⟨?hwu8, rfl⟩) hHeld ?restu8
        case hiu8 => simp only [List.getElem?_toArray, List.getElem?_cons_zero, List.getElem?_cons_succ]; rfl
        case hwu8 => rfl
        case hQu8 => exact fun _ _ _ h => h
        (try simp only [Act.put, List.setIfInBounds_toArray, List.set_cons_zero, List.set_cons_succ])
        refine wpAnyH_take (i := 8) (oi := ?_) (v := undef) ?hiu9 (by as_aux_lemma => kernel_rfl) (by as_aux_lemma => kernel_rfl) (by as_aux_lemma => kernel_rfl) ?hQu9 (Or.inr ⟨?hwu9, rfl⟩) hHeld ?restu9
        case hiu9 => simp only [List.getElem?_toArray, List.getElem?_cons_zero, List.getElem?_cons_succ]; rfl
        case hwu9 => rfl
        case hQu9 => exact fun _ _ _ h => h
        (try simp only [Act.put, List.setIfInBounds_toArray, List.set_cons_zero, List.set_cons_succ])
        refine wpAnyH_take (i := 9) (oi := ?_) (v := undef) ?hiu10 (by as_aux_lemma => kernel_rfl) (by as_aux_lemma => kernel_rfl) (by as_aux_lemma => kernel_rfl) ?hQu10 (Or.inr ⟨?hwu10, rfl⟩) hHeld ?restu10
        case hiu10 => simp only [List.getElem?_toArray, List.getElem?_cons_zero, List.getElem?_cons_succ]; rfl
        case hwu10 => rfl
        case hQu10 => exact fun _ _ _ h => h
        (try simp only [Act.put, List.setIfInBounds_toArray, List.set_cons_zero, List.set_cons_succ])
        refine wpAnyH_take (i := 10) (oi := ?_) (v := undef) ?hiu11 (by as_aux_lemma => kernel_rfl) (by as_aux_lemma => kernel_rfl) (by as_aux_lemma => kernel_rfl) ?hQu11 (Or.inr ⟨?hwu11, rfl⟩) hHeld ?restu11
        case hiu11 => simp only [List.getElem?_toArray, List.getElem?_cons_zero, List.getElem?_cons_succ]; rfl
        case hwu11 => rfl
        case hQu11 => exact fun _ _ _ h => h
        (try simp only [Act.put, List.setIfInBounds_toArray, List.set_cons_zero, List.set_cons_succ])
        refine wpAnyH_take (i := 11) (oi := ?_) (v := undef) ?hiu12 (by as_aux_lemma => kernel_rfl) (by as_aux_lemma => kernel_rfl) (by as_aux_lemma => kernel_rfl) ?hQu12 (Or.inr ⟨?hwu12, rfl⟩) hHeld ?restu12
        case hiu12 => simp only [List.getElem?_toArray, List.getElem?_cons_zero, List.getElem?_cons_succ]; rfl
        case hwu12 => rfl
        case hQu12 => exact fun _ _ _ h => h
        (try simp only [Act.put, List.setIfInBounds_toArray, List.set_cons_zero, List.set_cons_succ])
        refine wpAnyH_take (i := 12) (oi := ?_) (v := undef) ?hiu13 (by as_aux_lemma => kernel_rfl) (by as_aux_lemma => kernel_rfl) (by as_aux_lemma => kernel_rfl) ?hQu13 (Or.inr ⟨?hwu13, rfl⟩) hHeld ?restu13
        case hiu13 => simp only [List.getElem?_toArray, List.getElem?_cons_zero, List.getElem?_cons_succ]; rfl
        case hwu13 => rfl
        case hQu13 => exact fun _ _ _ h => h
        (try simp only [Act.put, List.setIfInBounds_toArray, List.set_cons_zero, List.set_cons_succ])
        refine wpAnyH_take (i := 13) (oi := ?_) (v := undef) ?hiu14 (by as_aux_lemma => kernel_rfl) (by as_aux_lemma => kernel_rfl) (by as_aux_lemma => kernel_rfl) ?hQu14 (Or.inr ⟨?hwu14, rfl⟩) hHeld ?restu14
        case hiu14 => simp only [List.getElem?_toArray, List.getElem?_cons_zero, List.getElem?_cons_succ]; rfl
        case hwu14 => rfl
        case hQu14 => exact fun _ _ _ h => h
        (try simp only [Act.put, List.setIfInBounds_toArray, List.set_cons_zero, List.set_cons_succ])
        refine wpAnyH_take (i := 14) (oi := ?_) (v := undef) ?hiu15 (by as_aux_lemma => kernel_rfl) (by as_aux_lemma => kernel_rfl) (by as_aux_lemma => kernel_rfl) ?hQu15 (Or.inr ⟨?hwu15, rfl⟩) hHeld ?restu15
        case hiu15 => simp only [List.getElem?_toArray, List.getElem?_cons_zero, List.getElem?_cons_succ]; rfl
        case hwu15 => rfl
        case hQu15 => exact fun _ _ _ h => h
        (try simp only [Act.put, List.setIfInBounds_toArray, List.set_cons_zero, List.set_cons_succ])
        refine wpAnyH_take (i := 15) (oi := ?_) (v := undef) ?hiu16 (by as_aux_lemma => kernel_rfl) (by as_aux_lemma => kernel_rfl) (by as_aux_lemma => kernel_rfl) ?hQu16 (Or.inr ⟨?hwu16, rfl⟩) hHeld ?restu16
        case hiu16 => simp only [List.getElem?_toArray, List.getElem?_cons_zero, List.getElem?_cons_succ]; rfl
        case hwu16 => rfl
        case hQu16 => exact fun _ _ _ h => h
        (try simp only [Act.put, List.setIfInBounds_toArray, List.set_cons_zero, List.set_cons_succ])
        refine wpAnyH_take (i := 16) (oi := ?_) (v := undef) ?hiu17 (by as_aux_lemma => kernel_rfl) (by as_aux_lemma => kernel_rfl) (by as_aux_lemma => kernel_rfl) ?hQu17 (Or.inr ⟨?hwu17, rfl⟩) hHeld ?restu17
        case hiu17 => simp only [List.getElem?_toArray, List.getElem?_cons_zero, List.getElem?_cons_succ]; rfl
        case hwu17 => rfl
        case hQu17 => exact fun _ _ _ h => h
        (try simp only [Act.put, List.setIfInBounds_toArray, List.set_cons_zero, List.set_cons_succ])
        refine wpAnyH_take (i := 17) (oi := ?_) (v := undef) ?hiu18 (by as_aux_lemma => kernel_rfl) (by as_aux_lemma => kernel_rfl) (by as_aux_lemma => kernel_rfl) ?hQu18 (Or.inr ⟨?hwu18, rfl⟩) hHeld ?restu18
        case hiu18 => simp only [List.getElem?_toArray, List.getElem?_cons_zero, List.getElem?_cons_succ]; rfl
        case hwu18 => rfl
        case hQu18 => exact fun _ _ _ h => h
        (try simp only [Act.put, List.setIfInBounds_toArray, List.set_cons_zero, List.set_cons_succ])
        refine wpAnyH_take (i := 18) (oi := ?_) (v := undef) ?hiu19 (by as_aux_lemma => kernel_rfl) (by as_aux_lemma => kernel_rfl) (by as_aux_lemma => kernel_rfl) ?hQu19 (Or.inr ⟨?hwu19, rfl⟩) hHeld ?restu19
        case hiu19 => simp only [List.getElem?_toArray, List.getElem?_cons_zero, List.getElem?_cons_succ]; rfl
        case hwu19 => rfl
        case hQu19 => exact fun _ _ _ h => h
        (try simp only [Act.put, List.setIfInBounds_toArray, List.set_cons_zero, List.set_cons_succ])
        refine wpAnyH_take (i := 19) (oi := ?_) (v := undef) ?hiu20 (by as_aux_lemma => kernel_rfl) (by as_aux_lemma => kernel_rfl) (by as_aux_lemma => kernel_rfl) ?hQu20 (Or.inr ⟨?hwu20, rfl⟩) hHeld ?restu20
        case hiu20 => simp only [List.getElem?_toArray, List.getElem?_cons_zero, List.getElem?_cons_succ]; rfl
        case hwu20 => rfl
        case hQu20 => exact fun _ _ _ h => h
        (try simp only [Act.put, List.setIfInBounds_toArray, List.set_cons_zero, List.set_cons_succ])
        refine wpAnyH_take (i := 20) (oi := ?_) (v := undef) ?hiu21 (by as_aux_lemma => kernel_rfl) (by as_aux_lemma => kernel_rfl) (by as_aux_lemma => kernel_rfl) ?hQu21 (Or.inr ⟨?hwu21, rfl⟩) hHeld ?restu21
        case hiu21 => simp only [List.getElem?_toArray, List.getElem?_cons_zero, List.getElem?_cons_succ]; rfl
        case hwu21 => rfl
        case hQu21 => exact fun _ _ _ h => h
        (try simp only [Act.put, List.setIfInBounds_toArray, List.set_cons_zero, List.set_cons_succ])
        refine wpAnyH_take (i := 21) (oi := ?_) (v := undef) ?hiu22 (by as_aux_lemma => kernel_rfl) (by as_aux_lemma => kernel_rfl) (by as_aux_lemma => kernel_rfl) ?hQu22 (Or.inr ⟨?hwu22, rfl⟩) hHeld ?restu22
        case hiu22 => simp only [List.getElem?_toArray, List.getElem?_cons_zero, List.getElem?_cons_succ]; rfl
        case hwu22 => rfl
        case hQu22 => exact fun _ _ _ h => h
        (try simp only [Act.put, List.setIfInBounds_toArray, List.set_cons_zero, List.set_cons_succ])
        refine wpAnyH_take (i := 22) (oi := ?_) (v := undef) ?hiu23 (by as_aux_lemma => kernel_rfl) (by as_aux_lemma => kernel_rfl) (by as_aux_lemma => kernel_rfl) ?hQu23 (Or.inr ⟨?hwu23, rfl⟩) hHeld ?restu23
        case hiu23 => simp only [List.getElem?_toArray, List.getElem?_cons_zero, List.getElem?_cons_succ]; rfl
        case hwu23 => rfl
        case hQu23 => exact fun _ _ _ h => h
        (try simp only [Act.put, List.setIfInBounds_toArray, List.set_cons_zero, List.set_cons_succ])
        refine wpAnyH_take (i := 23) (oi := ?_) (v := ?_) ?hiu24 (by as_aux_lemma => kernel_rfl) (by as_aux_lemma => kernel_rfl) (by as_aux_lemma => kernel_rfl) ?hQu24 (Or.inl ⟨?hwu24, ?hyu24⟩) hHeld ?restu24
        case hiu24 => simp only [List.getElem?_toArray, List.getElem?_cons_zero, List.getElem?_cons_succ]; rfl
        case hwu24 => rfl
        case hyu24 => (intro w9 hSw; (try dsimp only at hSw); go_simp; (try with_reducible rfl))
        case hQu24 => exact fun _ _ _ h => h
        (try simp only [Act.put, List.setIfInBounds_toArray, List.set_cons_zero, List.set_cons_succ])
        refine wpAnyH_done (by as_aux_lemma => kernel_rfl) ?_ _
        have HB7 := Lib.hid hHeld.1
        clear hHeld hS
        go_wp2
        go_ret
        exact ⟨by rw [HE.out] <;> rfl, bT HB.out HB7.out⟩
      | true =>
        rw [hrb] at hR
        rcases Nat.eq_zero_or_pos k with hk0 | hk0
        · have hid : 0 ≤ id ∧ id ≤ 99 := rightB_id (k := ⟨id, sec, fr, til⟩) hrb
          have HT2 : Hid (ringGo (-1) (l.take (k + 1)) = true) := Lib.hid (by
            subst hk0
            rw [List.take_succ_eq_append_getElem hlt, HKY.out]
            simp [ringGo, hrb]; omega)
          have d0 : decide ((0 : Int) < (k : Int)) = false := decide_eq_false (by omega)
          have d0' : decide (0 < k) = false := decide_eq_false (by omega)
          have hS : Below wr.heap.size wr wr ∧ wr.cell? (ad.add (k * 4)) = some (.int .i64 id) ∧ wr.cell? ⟨(ad.add (k * 4)).block, (ad.add (k * 4)).off + 1, none⟩ = some (.slice B n c2) ∧ wr.cell? ⟨(ad.add (k * 4)).block, (ad.add (k * 4)).off + 2, none⟩ = some (.int .i64 fr) ∧ wr.cell? ⟨(ad.add (k * 4)).block, (ad.add (k * 4)).off + 3, none⟩ = some (.int .i64 til) := ⟨Below.refl _ _, q0, q1, q2, q3⟩
          clear q0 q1 q2 q3 HGO HP hrb hk0 hid
          go_wp2
          refine wp_region_held_drew (S := fun w9 => Below wr.heap.size wr w9 ∧ w9.cell? (ad.add (k * 4)) = some (.int .i64 id) ∧ w9.cell? ⟨(ad.add (k * 4)).block, (ad.add (k * 4)).off + 1, none⟩ = some (.slice B n c2) ∧ w9.cell? ⟨(ad.add (k * 4)).block, (ad.add (k * 4)).off + 2, none⟩ = some (.int .i64 fr) ∧ w9.cell? ⟨(ad.add (k * 4)).block, (ad.add (k * 4)).off + 3, none⟩ = some (.int .i64 til)) (by kernel_rfl) ⟨hS.1.drew, hS.2⟩ (fun hHeld => ?_)
          refine wpAnyH_take (i := 0) (oi := ?_) (v := ?_) ?hiu25 (by as_aux_lemma => kernel_rfl) (by as_aux_lemma => kernel_rfl) (by as_aux_lemma => kernel_rfl) ?hQu25 (Or.inl ⟨?hwu25, ?hyu25⟩) hHeld ?restu25
          case hiu25 => simp only [List.getElem?_toArray, List.getElem?_cons_zero, List.getElem?_cons_succ]; rfl
          case hwu25 => rfl
          case hyu25 => (intro w9 hSw; (try dsimp only at hSw); go_simp; (try with_reducible rfl))
          case hQu25 => exact fun _ _ _ h => h
          (try simp only [Act.put, List.setIfInBounds_toArray, List.set_cons_zero, List.set_cons_succ])
          refine wpAnyH_take (i := 1) (oi := ?_) (v := ?_) ?hiu26 (by as_aux_lemma => kernel_rfl) (by as_aux_lemma => kernel_rfl) (by as_aux_lemma => kernel_rfl) ?hQu26 (Or.inl ⟨?hwu26, ?hyu26⟩) hHeld ?restu26
          case hiu26 => simp only [List.getElem?_toArray, List.getElem?_cons_zero, List.getElem?_cons_succ]; rfl
          case hwu26 => rfl
          case hyu26 => (intro w9 hSw; (try dsimp only at hSw); go_simp; (try with_reducible rfl))
          case hQu26 => exact fun _ _ _ h => h
          (try simp only [Act.put, List.setIfInBounds_toArray, List.set_cons_zero, List.set_cons_succ])
          refine wpAnyH_take (i := 2) (oi := ?_) (v := ?_) ?hiu27 (by as_aux_lemma => kernel_rfl) (by as_aux_lemma => kernel_rfl) (by as_aux_lemma => kernel_rfl) ?hQu27 (Or.inl ⟨?hwu27, ?hyu27⟩) hHeld ?restu27
          case hiu27 => simp only [List.getElem?_toArray, List.getElem?_cons_zero, List.getElem?_cons_succ]; rfl
          case hwu27 => rfl
          case hyu27 => (intro w9 hSw; (try dsimp only at hSw); go_simp; (try with_reducible rfl))
          case hQu27 => exact fun _ _ _ h => h
          (try simp only [Act.put, List.setIfInBounds_toArray, List.set_cons_zero, List.set_cons_succ])
          refine wpAnyH_take (i := 3) (oi := ?_) (v := ?_) ?hiu28 (by as_aux_lemma => kernel_rfl) (by as_aux_lemma => kernel_rfl) (by as_aux_lemma => kernel_rfl) ?hQu28 (Or.inl ⟨?hwu28, ?hyu28⟩) hHeld ?restu28
          case hiu28 => simp only [List.getElem?_toArray, List.getElem?_cons_zero, List.getElem?_cons_succ]; rfl
          case hwu28 => rfl
          case hyu28 => (intro w9 hSw; (try dsimp only at hSw); go_simp; (try with_reducible rfl))
          case hQu28 => exact fun _ _ _ h => h
          (try simp only [Act.put, List.setIfInBounds_toArray, List.set_cons_zero, List.set_cons_succ])
          refine wpAnyH_ready (rs := [4]) (by as_aux_lemma => kernel_rfl) (by simp) (AllReadyH.cons (o := ?_) ?hiu29 (fun K hK => ?_) AllReadyH.nil)
          case hiu29 => simp only [List.getElem?_toArray, List.getElem?_cons_zero, List.getElem?_cons_succ]; rfl
          (try rw [if_pos (by rfl)])
          go_wp2_with fail
          refine (hR _).mono ?_
          rintro e w5 ⟨rfl, hb5⟩
          dsimp only
          refine hK.out _ _ ?_ (fun hHeld => ?_)
          · exact keepK0 hHeld hb5
          clear hK K
          (try simp only [Act.put, List.setIfInBounds_toArray, List.set_cons_zero, List.set_cons_succ])
          refine wpAnyH_take (i := 5) (oi := ?_) (v := ?_) ?hiu30 (by as_aux_lemma => kernel_rfl) (by as_aux_lemma => kernel_rfl) (by as_aux_lemma => kernel_rfl) ?hQu30 (Or.inl ⟨?hwu30, ?hyu30⟩) hHeld ?restu30
          case hiu30 => simp only [List.getElem?_toArray, List.getElem?_cons_zero, List.getElem?_cons_succ]; rfl
          case hwu30 => rfl
          case hyu30 => (intro w9 hSw; (try dsimp only at hSw); go_simp; (try with_reducible rfl))
          case hQu30 => exact fun _ _ _ h => h
          (try simp only [Act.put, List.setIfInBounds_toArray, List.set_cons_zero, List.set_cons_succ])
          refine wpAnyH_take (i := 6) (oi := ?_) (v := ?_) ?hiu31 (by as_aux_lemma => kernel_rfl) (by as_aux_lemma => kernel_rfl) (by as_aux_lemma => kernel_rfl) ?hQu31 (Or.inl ⟨?hwu31, ?hyu31⟩) hHeld ?restu31
          case hiu31 => simp only [List.getElem?_toArray, List.getElem?_cons_zero, List.getElem?_cons_succ]; rfl
          case hwu31 => rfl
          case hyu31 => (intro w9 hSw; (try dsimp only at hSw); go_simp; (try with_reducible rfl))
          case hQu31 => exact fun _ _ _ h => h
          (try simp only [Act.put, List.setIfInBounds_toArray, List.set_cons_zero, List.set_cons_succ])
          refine wpAnyH_take (i := 7) (oi := ?_) (v := ?_) ?hiu32 (by as_aux_lemma => kernel_rfl) (by as_aux_lemma => kernel_rfl) (by as_aux_lemma => kernel_rfl) ?hQu32 (Or.inl ⟨?hwu32, ?hyu32⟩) hHeld ?restu32
          case hiu32 => simp only [List.getElem?_toArray, List.getElem?_cons_zero, List.getElem?_cons_succ]; rfl
          case hwu32 => rfl
          case hyu32 => (intro w9 hSw; (try dsimp only at hSw); go_simp; (try with_reducible rfl))
          case hQu32 => exact fun _ _ _ h => h
          (try simp only [Act.put, List.setIfInBounds_toArray, List.set_cons_zero, List.set_cons_succ])
          refine wpAnyH_take (i := 8) (oi := ?_) (v := ?_) ?hiu33 (by as_aux_lemma => kernel_rfl) (by as_aux_lemma => kernel_rfl) (by as_aux_lemma => kernel_rfl) ?hQu33 (Or.inl ⟨?hwu33, ?hyu33⟩) hHeld ?restu33
          case hiu33 => simp only [List.getElem?_toArray, List.getElem?_cons_zero, List.getElem?_cons_succ]; rfl
          case hwu33 => rfl
          case hyu33 => (intro w9 hSw; (try dsimp only at hSw); go_simp; (try with_reducible rfl))
          case hQu33 => exact fun _ _ _ h => h
          (try simp only [Act.put, List.setIfInBounds_toArray, List.set_cons_zero, List.set_cons_succ])
          refine wpAnyH_take (i := 9) (oi := ?_) (v := ?_) ?hiu34 (by as_aux_lemma => kernel_rfl) (by as_aux_lemma => kernel_rfl) (by as_aux_lemma => kernel_rfl) ?hQu34 (Or.inl ⟨?hwu34, ?hyu34⟩) hHeld ?restu34
          case hiu34 => simp only [List.getElem?_toArray, List.getElem?_cons_zero, List.getElem?_cons_succ]; rfl
          case hwu34 => rfl
          case hyu34 => (intro w9 hSw; (try dsimp only at hSw); go_simp; (try with_reducible rfl))
          case hQu34 => exact fun _ _ _ h => h
          (try simp only [Act.put, List.setIfInBounds_toArray, List.set_cons_zero, List.set_cons_succ])
          refine wpAnyH_take (i := 10) (oi := ?_) (v := undef) ?hiu35 (by as_aux_lemma => kernel_rfl) (by as_aux_lemma => kernel_rfl) (by as_aux_lemma => kernel_rfl) ?hQu35 (Or.inr ⟨?hwu35, rfl⟩) hHeld ?restu35
          case hiu35 => simp only [List.getElem?_toArray, List.getElem?_cons_zero, List.getElem?_cons_succ]; rfl
          case hwu35 => rfl
          case hQu35 => exact fun _ _ _ h => h
          (try simp only [Act.put, List.setIfInBounds_toArray, List.set_cons_zero, List.set_cons_succ])
          refine wpAnyH_take (i := 11) (oi := ?_) (v := undef) ?hiu36 (by as_aux_lemma => kernel_rfl) (by as_aux_lemma => kernel_rfl) (by as_aux_lemma => kernel_rfl) ?hQu36 (Or.inr ⟨?hwu36, rfl⟩) hHeld ?restu36
          case hiu36 => simp only [List.getElem?_toArray, List.getElem?_cons_zero, List.getElem?_cons_succ]; rfl
          case hwu36 => rfl
          case hQu36 => exact fun _ _ _ h => h
          (try simp only [Act.put, List.setIfInBounds_toArray, List.set_cons_zero, List.set_cons_succ])
          refine wpAnyH_take (i := 12) (oi := ?_) (v := undef) ?hiu37 (by as_aux_lemma => kernel_rfl) (by as_aux_lemma => kernel_rfl) (by as_aux_lemma => kernel_rfl) ?hQu37 (Or.inr ⟨?hwu37, rfl⟩) hHeld ?restu37
          case hiu37 => simp only [List.getElem?_toArray, List.getElem?_cons_zero, List.getElem?_cons_succ]; rfl
          case hwu37 => rfl
          case hQu37 => exact fun _ _ _ h => h
          (try simp only [Act.put, List.setIfInBounds_toArray, List.set_cons_zero, List.set_cons_succ])
          refine wpAnyH_take (i := 13) (oi := ?_) (v := undef) ?hiu38 (by as_aux_lemma => kernel_rfl) (by as_aux_lemma => kernel_rfl) (by as_aux_lemma => kernel_rfl) ?hQu38 (Or.inr ⟨?hwu38, rfl⟩) hHeld ?restu38
          case hiu38 => simp only [List.getElem?_toArray, List.getElem?_cons_zero, List.getElem?_cons_succ]; rfl
          case hwu38 => rfl
          case hQu38 => exact fun _ _ _ h => h
          (try simp only [Act.put, List.setIfInBounds_toArray, List.set_cons_zero, List.set_cons_succ])
          refine wpAnyH_take (i := 14) (oi := ?_) (v := undef) ?hiu39 (by as_aux_lemma => kernel_rfl) (by as_aux_lemma => kernel_rfl) (by as_aux_lemma => kernel_rfl) ?hQu39 (Or.inr ⟨?hwu39, rfl⟩) hHeld ?restu39
          case hiu39 => simp only [List.getElem?_toArray, List.getElem?_cons_zero, List.getElem?_cons_succ]; rfl
          case hwu39 => rfl
          case hQu39 => exact fun _ _ _ h => h
          (try simp only [Act.put, List.setIfInBounds_toArray, List.set_cons_zero, List.set_cons_succ])
          refine wpAnyH_take (i := 15) (oi := ?_) (v := undef) ?hiu40 (by as_aux_lemma => kernel_rfl) (by as_aux_lemma => kernel_rfl) (by as_aux_lemma => kernel_rfl) ?hQu40 (Or.inr ⟨?hwu40, rfl⟩) hHeld ?restu40
          case hiu40 => simp only [List.getElem?_toArray, List.getElem?_cons_zero, List.getElem?_cons_succ]; rfl
          case hwu40 => rfl
          case hQu40 => exact fun _ _ _ h => h
          (try simp only [Act.put, List.setIfInBounds_toArray, List.set_cons_zero, List.set_cons_succ])
          refine wpAnyH_take (i := 16) (oi := ?_) (v := undef) ?hiu41 (by as_aux_lemma => kernel_rfl) (by as_aux_lemma => kernel_rfl) (by as_aux_lemma => kernel_rfl) ?hQu41 (Or.inr ⟨?hwu41, rfl⟩) hHeld ?restu41
          case hiu41 => simp only [List.getElem?_toArray, List.getElem?_cons_zero, List.getElem?_cons_succ]; rfl
          case hwu41 => rfl
          case hQu41 => exact fun _ _ _ h => h
          (try simp only [Act.put, List.setIfInBounds_toArray, List.set_cons_zero, List.set_cons_succ])
          refine wpAnyH_take (i := 17) (oi := ?_) (v := undef) ?hiu42 (by as_aux_lemma => kernel_rfl) (by as_aux_lemma => kernel_rfl) (by as_aux_lemma => kernel_rfl) ?hQu42 (Or.inr ⟨?hwu42, rfl⟩) hHeld ?restu42
          case hiu42 => simp only [List.getElem?_toArray, List.getElem?_cons_zero, List.getElem?_cons_succ]; rfl
          case hwu42 => rfl
          case hQu42 => exact fun _ _ _ h => h
          (try simp only [Act.put, List.setIfInBounds_toArray, List.set_cons_zero, List.set_cons_succ])
          refine wpAnyH_take (i := 18) (oi := ?_) (v := undef) ?hiu43 (by as_aux_lemma => kernel_rfl) (by as_aux_lemma => kernel_rfl) (by as_aux_lemma => kernel_rfl) ?hQu43 (Or.inr ⟨?hwu43, rfl⟩) hHeld ?restu43
          case hiu43 => simp only [List.getElem?_toArray, List.getElem?_cons_zero, List.getElem?_cons_succ]; rfl
          case hwu43 => rfl
          case hQu43 => exact fun _ _ _ h => h
          (try simp only [Act.put, List.setIfInBounds_toArray, List.set_cons_zero, List.set_cons_succ])
          refine wpAnyH_take (i := 19) (oi := ?_) (v := undef) ?hiu44 (by as_aux_lemma => kernel_rfl) (by as_aux_lemma => kernel_rfl) (by as_aux_lemma => kernel_rfl) ?hQu44 (Or.inr ⟨?hwu44, rfl⟩) hHeld ?restu44
          case hiu44 => simp only [List.getElem?_toArray, List.getElem?_cons_zero, List.getElem?_cons_succ]; rfl
          case hwu44 => rfl
          case hQu44 => exact fun _ _ _ h => h
          (try simp only [Act.put, List.setIfInBounds_toArray, List.set_cons_zero, List.set_cons_succ])
          refine wpAnyH_take (i := 20) (oi := ?_) (v := undef) ?hiu45 (by as_aux_lemma => kernel_rfl) (by as_aux_lemma => kernel_rfl) (by as_aux_lemma => kernel_rfl) ?hQu45 (Or.inr ⟨?hwu45, rfl⟩) hHeld ?restu45
          case hiu45 => simp only [List.getElem?_toArray, List.getElem?_cons_zero, List.getElem?_cons_succ]; rfl
          case hwu45 => rfl
          case hQu45 => exact fun _ _ _ h => h
          (try simp only [Act.put, List.setIfInBounds_toArray, List.set_cons_zero, List.set_cons_succ])
          refine wpAnyH_take (i := 21) (oi := ?_) (v := undef) ?hiu46 (by as_aux_lemma => kernel_rfl) (by as_aux_lemma => kernel_rfl) (by as_aux_lemma => kernel_rfl) ?hQu46 (Or.inr ⟨?hwu46, rfl⟩) hHeld ?restu46
          case hiu46 => simp only [List.getElem?_toArray, List.getElem?_cons_zero, List.getElem?_cons_succ]; rfl
          case hwu46 => rfl
          case hQu46 => exact fun _ _ _ h => h
          (try simp only [Act.put, List.setIfInBounds_toArray, List.set_cons_zero, List.set_cons_succ])
          refine wpAnyH_take (i := 22) (oi := ?_) (v := ?_) ?hiu47 (by as_aux_lemma => kernel_rfl) (by as_aux_lemma => kernel_rfl) (by as_aux_lemma => kernel_rfl) ?hQu47 (Or.inl ⟨?hwu47, ?hyu47⟩) hHeld ?restu47
          case hiu47 => simp only [List.getElem?_toArray, List.getElem?_cons_zero, List.getElem?_cons_succ]; rfl
          case hwu47 => rfl
          case hyu47 => (intro w9 hSw; (try dsimp only at hSw); go_simp; (try with_reducible rfl))
          case hQu47 => exact fun _ _ _ h => h
          (try simp only [Act.put, List.setIfInBounds_toArray, List.set_cons_zero, List.set_cons_succ])
          refine wpAnyH_take (i := 23) (oi := ?_) (v := ?_) ?hiu48 (by as_aux_lemma => kernel_rfl) (by as_aux_lemma => kernel_rfl) (by as_aux_lemma => kernel_rfl) ?hQu48 (Or.inl ⟨?hwu48, ?hyu48⟩) hHeld ?restu48
          case hiu48 => simp only [List.getElem?_toArray, List.getElem?_cons_zero, List.getElem?_cons_succ]; rfl
          case hwu48 => rfl
          case hyu48 => (intro w9 hSw; (try dsimp only at hSw); go_simp; (try with_reducible rfl))
          case hQu48 => exact fun _ _ _ h => h
          (try simp only [Act.put, List.setIfInBounds_toArray, List.set_cons_zero, List.set_cons_succ])
          refine wpAnyH_done (by as_aux_lemma => kernel_rfl) ?_ _
          have HB7 := Lib.hid hHeld.1
          clear hHeld hS
          go_wp2
          go_roundw
          case rel => exact ⟨k + 1, by omega, by go_num, Lib.hid (bT HB.out HB7.out), HT2⟩
          case measure => simp [intOf]; omega
        · obtain ⟨j, hj⟩ : ∃ j, k = j + 1 := ⟨k - 1, by omega⟩
          obtain ⟨pid, p0, hp⟩ := HP.out j (by omega)
          have e1 : IntKind.i64.wrap ((k : Int) - 1) = (j : Int) := by rw [show ((k : Int) - 1) = (j : Int) by omega]; exact IntWalk.i64_in _ (by omega)
          have j0 : (0 : Int) ≤ (j : Int) := by omega
          have j1 : (j : Int) < (l.length : Int) := by omega
          have d0 : decide ((0 : Int) < (k : Int)) = true := decide_eq_true (by omega)
          have d0' : decide (0 < k) = true := decide_eq_true (by omega)
          have hpl : ∀ h : 0 < k, (l[k-1]'(by omega)).id = pid := fun h => by
            rw [hp (by omega)]; congr 1; simp [hj]
          by_cases hle : id ≤ pid
          · have HE : Hid (ringB l = false) := Lib.hid (by
              unfold ringB; rw [HGO.out, hrb, dif_pos hk0, hpl hk0]; simp; omega)
            have hS : Below wr.heap.size wr wr ∧ wr.cell? (ad.add (k * 4)) = some (.int .i64 id) ∧ wr.cell? ⟨(ad.add (k * 4)).block, (ad.add (k * 4)).off + 1, none⟩ = some (.slice B n c2) ∧ wr.cell? ⟨(ad.add (k * 4)).block, (ad.add (k * 4)).off + 2, none⟩ = some (.int .i64 fr) ∧ wr.cell? ⟨(ad.add (k * 4)).block, (ad.add (k * 4)).off + 3, none⟩ = some (.int .i64 til) ∧ wr.cell? (ad.add (j * 4)) = some (.int .i64 pid) := ⟨Below.refl _ _, q0, q1, q2, q3, p0⟩
            have dl : decide (id ≤ pid) = true := decide_eq_true hle
            clear q0 q1 q2 q3 p0 HGO HP hrb hk0 hp hpl hj hle
            go_wp2
            refine wp_region_held_drew (S := fun w9 => Below wr.heap.size wr w9 ∧ w9.cell? (ad.add (k * 4)) = some (.int .i64 id) ∧ w9.cell? ⟨(ad.add (k * 4)).block, (ad.add (k * 4)).off + 1, none⟩ = some (.slice B n c2) ∧ w9.cell? ⟨(ad.add (k * 4)).block, (ad.add (k * 4)).off + 2, none⟩ = some (.int .i64 fr) ∧ w9.cell? ⟨(ad.add (k * 4)).block, (ad.add (k * 4)).off + 3, none⟩ = some (.int .i64 til) ∧ w9.cell? (ad.add (j * 4)) = some (.int .i64 pid)) (by kernel_rfl) ⟨hS.1.drew, hS.2⟩ (fun hHeld => ?_)
            refine wpAnyH_take (i := 0) (oi := ?_) (v := ?_) ?hiu49 (by as_aux_lemma => kernel_rfl) (by as_aux_lemma => kernel_rfl) (by as_aux_lemma => kernel_rfl) ?hQu49 (Or.inl ⟨?hwu49, ?hyu49⟩) hHeld ?restu49
            case hiu49 => simp only [List.getElem?_toArray, List.getElem?_cons_zero, List.getElem?_cons_succ]; rfl
            case hwu49 => rfl
            case hyu49 => (intro w9 hSw; (try dsimp only at hSw); go_simp; (try with_reducible rfl))
            case hQu49 => exact fun _ _ _ h => h
            (try simp only [Act.put, List.setIfInBounds_toArray, List.set_cons_zero, List.set_cons_succ])
            refine wpAnyH_take (i := 1) (oi := ?_) (v := ?_) ?hiu50 (by as_aux_lemma => kernel_rfl) (by as_aux_lemma => kernel_rfl) (by as_aux_lemma => kernel_rfl) ?hQu50 (Or.inl ⟨?hwu50, ?hyu50⟩) hHeld ?restu50
            case hiu50 => simp only [List.getElem?_toArray, List.getElem?_cons_zero, List.getElem?_cons_succ]; rfl
            case hwu50 => rfl
            case hyu50 => (intro w9 hSw; (try dsimp only at hSw); go_simp; (try with_reducible rfl))
            case hQu50 => exact fun _ _ _ h => h
            (try simp only [Act.put, List.setIfInBounds_toArray, List.set_cons_zero, List.set_cons_succ])
            refine wpAnyH_take (i := 2) (oi := ?_) (v := ?_) ?hiu51 (by as_aux_lemma => kernel_rfl) (by as_aux_lemma => kernel_rfl) (by as_aux_lemma => kernel_rfl) ?hQu51 (Or.inl ⟨?hwu51, ?hyu51⟩) hHeld ?restu51
            case hiu51 => simp only [List.getElem?_toArray, List.getElem?_cons_zero, List.getElem?_cons_succ]; rfl
            case hwu51 => rfl
            case hyu51 => (intro w9 hSw; (try dsimp only at hSw); go_simp; (try with_reducible rfl))
            case hQu51 => exact fun _ _ _ h => h
            (try simp only [Act.put, List.setIfInBounds_toArray, List.set_cons_zero, List.set_cons_succ])
            refine wpAnyH_take (i := 3) (oi := ?_) (v := ?_) ?hiu52 (by as_aux_lemma => kernel_rfl) (by as_aux_lemma => kernel_rfl) (by as_aux_lemma => kernel_rfl) ?hQu52 (Or.inl ⟨?hwu52, ?hyu52⟩) hHeld ?restu52
            case hiu52 => simp only [List.getElem?_toArray, List.getElem?_cons_zero, List.getElem?_cons_succ]; rfl
            case hwu52 => rfl
            case hyu52 => (intro w9 hSw; (try dsimp only at hSw); go_simp; (try with_reducible rfl))
            case hQu52 => exact fun _ _ _ h => h
            (try simp only [Act.put, List.setIfInBounds_toArray, List.set_cons_zero, List.set_cons_succ])
            refine wpAnyH_ready (rs := [4]) (by as_aux_lemma => kernel_rfl) (by simp) (AllReadyH.cons (o := ?_) ?hiu53 (fun K hK => ?_) AllReadyH.nil)
            case hiu53 => simp only [List.getElem?_toArray, List.getElem?_cons_zero, List.getElem?_cons_succ]; rfl
            (try rw [if_pos (by rfl)])
            go_wp2_with fail
            refine (hR _).mono ?_
            rintro e w5 ⟨rfl, hb5⟩
            dsimp only
            refine hK.out _ _ ?_ (fun hHeld => ?_)
            · exact keepK1 hHeld hb5
            clear hK K
            (try simp only [Act.put, List.setIfInBounds_toArray, List.set_cons_zero, List.set_cons_succ])
            refine wpAnyH_take (i := 5) (oi := ?_) (v := ?_) ?hiu54 (by as_aux_lemma => kernel_rfl) (by as_aux_lemma => kernel_rfl) (by as_aux_lemma => kernel_rfl) ?hQu54 (Or.inl ⟨?hwu54, ?hyu54⟩) hHeld ?restu54
            case hiu54 => simp only [List.getElem?_toArray, List.getElem?_cons_zero, List.getElem?_cons_succ]; rfl
            case hwu54 => rfl
            case hyu54 => (intro w9 hSw; (try dsimp only at hSw); go_simp; (try with_reducible rfl))
            case hQu54 => exact fun _ _ _ h => h
            (try simp only [Act.put, List.setIfInBounds_toArray, List.set_cons_zero, List.set_cons_succ])
            refine wpAnyH_take (i := 6) (oi := ?_) (v := ?_) ?hiu55 (by as_aux_lemma => kernel_rfl) (by as_aux_lemma => kernel_rfl) (by as_aux_lemma => kernel_rfl) ?hQu55 (Or.inl ⟨?hwu55, ?hyu55⟩) hHeld ?restu55
            case hiu55 => simp only [List.getElem?_toArray, List.getElem?_cons_zero, List.getElem?_cons_succ]; rfl
            case hwu55 => rfl
            case hyu55 => (intro w9 hSw; (try dsimp only at hSw); go_simp; (try with_reducible rfl))
            case hQu55 => exact fun _ _ _ h => h
            (try simp only [Act.put, List.setIfInBounds_toArray, List.set_cons_zero, List.set_cons_succ])
            refine wpAnyH_take (i := 7) (oi := ?_) (v := ?_) ?hiu56 (by as_aux_lemma => kernel_rfl) (by as_aux_lemma => kernel_rfl) (by as_aux_lemma => kernel_rfl) ?hQu56 (Or.inl ⟨?hwu56, ?hyu56⟩) hHeld ?restu56
            case hiu56 => simp only [List.getElem?_toArray, List.getElem?_cons_zero, List.getElem?_cons_succ]; rfl
            case hwu56 => rfl
            case hyu56 => (intro w9 hSw; (try dsimp only at hSw); go_simp; (try with_reducible rfl))
            case hQu56 => exact fun _ _ _ h => h
            (try simp only [Act.put, List.setIfInBounds_toArray, List.set_cons_zero, List.set_cons_succ])
            refine wpAnyH_take (i := 8) (oi := ?_) (v := ?_) ?hiu57 (by as_aux_lemma => kernel_rfl) (by as_aux_lemma => kernel_rfl) (by as_aux_lemma => kernel_rfl) ?hQu57 (Or.inl ⟨?hwu57, ?hyu57⟩) hHeld ?restu57
            case hiu57 => simp only [List.getElem?_toArray, List.getElem?_cons_zero, List.getElem?_cons_succ]; rfl
            case hwu57 => rfl
            case hyu57 => (intro w9 hSw; (try dsimp only at hSw); go_simp; (try with_reducible rfl))
            case hQu57 => exact fun _ _ _ h => h
            (try simp only [Act.put, List.setIfInBounds_toArray, List.set_cons_zero, List.set_cons_succ])
            refine wpAnyH_take (i := 9) (oi := ?_) (v := ?_) ?hiu58 (by as_aux_lemma => kernel_rfl) (by as_aux_lemma => kernel_rfl) (by as_aux_lemma => kernel_rfl) ?hQu58 (Or.inl ⟨?hwu58, ?hyu58⟩) hHeld ?restu58
            case hiu58 => simp only [List.getElem?_toArray, List.getElem?_cons_zero, List.getElem?_cons_succ]; rfl
            case hwu58 => rfl
            case hyu58 => (intro w9 hSw; (try dsimp only at hSw); go_simp; (try with_reducible rfl))
            case hQu58 => exact fun _ _ _ h => h
            (try simp only [Act.put, List.setIfInBounds_toArray, List.set_cons_zero, List.set_cons_succ])
            refine wpAnyH_take (i := 10) (oi := ?_) (v := ?_) ?hiu59 (by as_aux_lemma => kernel_rfl) (by as_aux_lemma => kernel_rfl) (by as_aux_lemma => kernel_rfl) ?hQu59 (Or.inl ⟨?hwu59, ?hyu59⟩) hHeld ?restu59
            case hiu59 => simp only [List.getElem?_toArray, List.getElem?_cons_zero, List.getElem?_cons_succ]; rfl
            case hwu59 => rfl
            case hyu59 => (intro w9 hSw; (try dsimp only at hSw); go_simp; (try with_reducible rfl))
            case hQu59 => exact fun _ _ _ h => h
            (try simp only [Act.put, List.setIfInBounds_toArray, List.set_cons_zero, List.set_cons_succ])
            refine wpAnyH_take (i := 11) (oi := ?_) (v := ?_) ?hiu60 (by as_aux_lemma => kernel_rfl) (by as_aux_lemma => kernel_rfl) (by as_aux_lemma => kernel_rfl) ?hQu60 (Or.inl ⟨?hwu60, ?hyu60⟩) hHeld ?restu60
            case hiu60 => simp only [List.getElem?_toArray, List.getElem?_cons_zero, List.getElem?_cons_succ]; rfl
            case hwu60 => rfl
            case hyu60 => (intro w9 hSw; (try dsimp only at hSw); go_simp; (try with_reducible rfl))
            case hQu60 => exact fun _ _ _ h => h
            (try simp only [Act.put, List.setIfInBounds_toArray, List.set_cons_zero, List.set_cons_succ])
            refine wpAnyH_take (i := 12) (oi := ?_) (v := ?_) ?hiu61 (by as_aux_lemma => kernel_rfl) (by as_aux_lemma => kernel_rfl) (by as_aux_lemma => kernel_rfl) ?hQu61 (Or.inl ⟨?hwu61, ?hyu61⟩) hHeld ?restu61
            case hiu61 => simp only [List.getElem?_toArray, List.getElem?_cons_zero, List.getElem?_cons_succ]; rfl
            case hwu61 => rfl
            case hyu61 => (intro w9 hSw; (try dsimp only at hSw); go_simp; (try with_reducible rfl))
            case hQu61 => exact fun _ _ _ h => h
            (try simp only [Act.put, List.setIfInBounds_toArray, List.set_cons_zero, List.set_cons_succ])
            refine wpAnyH_take (i := 13) (oi := ?_) (v := ?_) ?hiu62 (by as_aux_lemma => kernel_rfl) (by as_aux_lemma => kernel_rfl) (by as_aux_lemma => kernel_rfl) ?hQu62 (Or.inl ⟨?hwu62, ?hyu62⟩) hHeld ?restu62
            case hiu62 => simp only [List.getElem?_toArray, List.getElem?_cons_zero, List.getElem?_cons_succ]; rfl
            case hwu62 => rfl
            case hyu62 => (intro w9 hSw; (try dsimp only at hSw); go_simp; (try with_reducible rfl))
            case hQu62 => exact fun _ _ _ h => h
            (try simp only [Act.put, List.setIfInBounds_toArray, List.set_cons_zero, List.set_cons_succ])
            refine wpAnyH_take (i := 14) (oi := ?_) (v := ?_) ?hiu63 (by as_aux_lemma => kernel_rfl) (by as_aux_lemma => kernel_rfl) (by as_aux_lemma => kernel_rfl) ?hQu63 (Or.inl ⟨?hwu63, ?hyu63⟩) hHeld ?restu63
            case hiu63 => simp only [List.getElem?_toArray, List.getElem?_cons_zero, List.getElem?_cons_succ]; rfl
            case hwu63 => rfl
            case hyu63 => (intro w9 hSw; (try dsimp only at hSw); go_simp; (try with_reducible rfl))
            case hQu63 => exact fun _ _ _ h => h
            (try simp only [Act.put, List.setIfInBounds_toArray, List.set_cons_zero, List.set_cons_succ])
            refine wpAnyH_take (i := 15) (oi := ?_) (v := ?_) ?hiu64 (by as_aux_lemma => kernel_rfl) (by as_aux_lemma => kernel_rfl) (by as_aux_lemma => kernel_rfl) ?hQu64 (Or.inl ⟨?hwu64, ?hyu64⟩) hHeld ?restu64
            case hiu64 => simp only [List.getElem?_toArray, List.getElem?_cons_zero, List.getElem?_cons_succ]; rfl
            case hwu64 => rfl
            case hyu64 => (intro w9 hSw; (try dsimp only at hSw); go_simp; (try with_reducible rfl))
            case hQu64 => exact fun _ _ _ h => h
            (try simp only [Act.put, List.setIfInBounds_toArray, List.set_cons_zero, List.set_cons_succ])
            refine wpAnyH_take (i := 16) (oi := ?_) (v := ?_) ?hiu65 (by as_aux_lemma => kernel_rfl) (by as_aux_lemma => kernel_rfl) (by as_aux_lemma => kernel_rfl) ?hQu65 (Or.inl ⟨?hwu65, ?hyu65⟩) hHeld ?restu65
            case hiu65 => simp only [List.getElem?_toArray, List.getElem?_cons_zero, List.getElem?_cons_succ]; rfl
            case hwu65 => rfl
            case hyu65 => (intro w9 hSw; (try dsimp only at hSw); go_simp; (try with_reducible rfl))
            case hQu65 => exact fun _ _ _ h => h
            (try simp only [Act.put, List.setIfInBounds_toArray, List.set_cons_zero, List.set_cons_succ])
            refine wpAnyH_take (i := 17) (oi := ?_) (v := ?_) ?hiu66 (by as_aux_lemma => kernel_rfl) (by as_aux_lemma => kernel_rfl) (by as_aux_lemma => kernel_rfl) ?hQu66 (Or.inl ⟨?hwu66, ?hyu66⟩) hHeld ?restu66
            case hiu66 => simp only [List.getElem?_toArray, List.getElem?_cons_zero, List.getElem?_cons_succ]; rfl
            case hwu66 => rfl
            case hyu66 => (intro w9 hSw; (try dsimp only at hSw); go_simp; (try with_reducible rfl))
            case hQu66 => exact fun _ _ _ h => h
            (try simp only [Act.put, List.setIfInBounds_toArray, List.set_cons_zero, List.set_cons_succ])
            refine wpAnyH_take (i := 18) (oi := ?_) (v := ?_) ?hiu67 (by as_aux_lemma => kernel_rfl) (by as_aux_lemma => kernel_rfl) (by as_aux_lemma => kernel_rfl) ?hQu67 (Or.inl ⟨?hwu67, ?hyu67⟩) hHeld ?restu67
            case hiu67 => simp only [List.getElem?_toArray, List.getElem?_cons_zero, List.getElem?_cons_succ]; rfl
            case hwu67 => rfl
            case hyu67 => (intro w9 hSw; (try dsimp only at hSw); go_simp; (try with_reducible rfl))
            case hQu67 => exact fun _ _ _ h => h
            (try simp only [Act.put, List.setIfInBounds_toArray, List.set_cons_zero, List.set_cons_succ])
            refine wpAnyH_take (i := 19) (oi := ?_) (v := ?_) ?hiu68 (by as_aux_lemma => kernel_rfl) (by as_aux_lemma => kernel_rfl) (by as_aux_lemma => kernel_rfl) ?hQu68 (Or.inl ⟨?hwu68, ?hyu68⟩) hHeld ?restu68
            case hiu68 => simp only [List.getElem?_toArray, List.getElem?_cons_zero, List.getElem?_cons_succ]; rfl
            case hwu68 => rfl
            case hyu68 => (intro w9 hSw; (try dsimp only at hSw); go_simp; (try with_reducible rfl))
            case hQu68 => exact fun _ _ _ h => h
            (try simp only [Act.put, List.setIfInBounds_toArray, List.set_cons_zero, List.set_cons_succ])
            refine wpAnyH_take (i := 20) (oi := ?_) (v := ?_) ?hiu69 (by as_aux_lemma => kernel_rfl) (by as_aux_lemma => kernel_rfl) (by as_aux_lemma => kernel_rfl) ?hQu69 (Or.inl ⟨?hwu69, ?hyu69⟩) hHeld ?restu69
            case hiu69 => simp only [List.getElem?_toArray, List.getElem?_cons_zero, List.getElem?_cons_succ]; rfl
            case hwu69 => rfl
            case hyu69 => (intro w9 hSw; (try dsimp only at hSw); go_simp; (try with_reducible rfl))
            case hQu69 => exact fun _ _ _ h => h
            (try simp only [Act.put, List.setIfInBounds_toArray, List.set_cons_zero, List.set_cons_succ])
            refine wpAnyH_take (i := 21) (oi := ?_) (v := ?_) ?hiu70 (by as_aux_lemma => kernel_rfl) (by as_aux_lemma => kernel_rfl) (by as_aux_lemma => kernel_rfl) ?hQu70 (Or.inl ⟨?hwu70, ?hyu70⟩) hHeld ?restu70
            case hiu70 => simp only [List.getElem?_toArray, List.getElem?_cons_zero, List.getElem?_cons_succ]; rfl
            case hwu70 => rfl
            case hyu70 => (intro w9 hSw; (try dsimp only at hSw); go_simp; (try with_reducible rfl))
            case hQu70 => exact fun _ _ _ h => h
            (try simp only [Act.put, List.setIfInBounds_toArray, List.set_cons_zero, List.set_cons_succ])
            refine wpAnyH_take (i := 22) (oi := ?_) (v := ?_) ?hiu71 (by as_aux_lemma => kernel_rfl) (by as_aux_lemma => kernel_rfl) (by as_aux_lemma => kernel_rfl) ?hQu71 (Or.inl ⟨?hwu71, ?hyu71⟩) hHeld ?restu71
            case hiu71 => simp only [List.getElem?_toArray, List.getElem?_cons_zero, List.getElem?_cons_succ]; rfl
            case hwu71 => rfl
            case hyu71 => (intro w9 hSw; (try dsimp only at hSw); go_simp; (try with_reducible rfl))
            case hQu71 => exact fun _ _ _ h => h
            (try simp only [Act.put, List.setIfInBounds_toArray, List.set_cons_zero, List.set_cons_succ])
            refine wpAnyH_take (i := 23) (oi := ?_) (v := ?_) ?hiu72 (by as_aux_lemma => kernel_rfl) (by as_aux_lemma => kernel_rfl) (by as_aux_lemma => kernel_rfl) ?hQu72 (Or.inl ⟨?hwu72, ?hyu72⟩) hHeld ?restu72
            case hiu72 => simp only [List.getElem?_toArray, List.getElem?_cons_zero, List.getElem?_cons_succ]; rfl
            case hwu72 => rfl
            case hyu72 => (intro w9 hSw; (try dsimp only at hSw); go_simp; (try with_reducible rfl))
            case hQu72 => exact fun _ _ _ h => h
            (try simp only [Act.put, List.setIfInBounds_toArray, List.set_cons_zero, List.set_cons_succ])
            refine wpAnyH_done (by as_aux_lemma => kernel_rfl) ?_ _
            have HB7 := Lib.hid hHeld.1
            clear hHeld hS
            go_wp2
            go_ret
            exact ⟨by rw [HE.out] <;> rfl, bT HB.out HB7.out⟩
          · have HT2 : Hid (ringGo (-1) (l.take (k + 1)) = true) := Lib.hid (by
              have h := ringGo_take (l.take (k + 1)) (-1) k (by rw [List.length_take]; omega) (by rw [List.take_take, Nat.min_eq_left (by omega)]; exact HT.out)
              rw [h]
              simp only [List.getElem_take, HKY.out, hrb, dif_pos hk0, hpl hk0, Bool.true_and]
              rw [decide_eq_true (by show pid < id; omega)]
              have : (l.take (k + 1)).drop (k + 1) = [] := List.drop_eq_nil_of_le (by rw [List.length_take]; omega)
              rw [this]; rfl)
            have hS : Below wr.heap.size wr wr ∧ wr.cell? (ad.add (k * 4)) = some (.int .i64 id) ∧ wr.cell? ⟨(ad.add (k * 4)).block, (ad.add (k * 4)).off + 1, none⟩ = some (.slice B n c2) ∧ wr.cell? ⟨(ad.add (k * 4)).block, (ad.add (k * 4)).off + 2, none⟩ = some (.int .i64 fr) ∧ wr.cell? ⟨(ad.add (k * 4)).block, (ad.add (k * 4)).off + 3, none⟩ = some (.int .i64 til) ∧ wr.cell? (ad.add (j * 4)) = some (.int .i64 pid) := ⟨Below.refl _ _, q0, q1, q2, q3, p0⟩
            have dl : decide (id ≤ pid) = false := decide_eq_false hle
            clear q0 q1 q2 q3 p0 HGO HP hrb hk0 hp hpl hj hle
            go_wp2
            refine wp_region_held_drew (S := fun w9 => Below wr.heap.size wr w9 ∧ w9.cell? (ad.add (k * 4)) = some (.int .i64 id) ∧ w9.cell? ⟨(ad.add (k * 4)).block, (ad.add (k * 4)).off + 1, none⟩ = some (.slice B n c2) ∧ w9.cell? ⟨(ad.add (k * 4)).block, (ad.add (k * 4)).off + 2, none⟩ = some (.int .i64 fr) ∧ w9.cell? ⟨(ad.add (k * 4)).block, (ad.add (k * 4)).off + 3, none⟩ = some (.int .i64 til) ∧ w9.cell? (ad.add (j * 4)) = some (.int .i64 pid)) (by kernel_rfl) ⟨hS.1.drew, hS.2⟩ (fun hHeld => ?_)
            refine wpAnyH_take (i := 0) (oi := ?_) (v := ?_) ?hiu73 (by as_aux_lemma => kernel_rfl) (by as_aux_lemma => kernel_rfl) (by as_aux_lemma => kernel_rfl) ?hQu73 (Or.inl ⟨?hwu73, ?hyu73⟩) hHeld ?restu73
            case hiu73 => simp only [List.getElem?_toArray, List.getElem?_cons_zero, List.getElem?_cons_succ]; rfl
            case hwu73 => rfl
            case hyu73 => (intro w9 hSw; (try dsimp only at hSw); go_simp; (try with_reducible rfl))
            case hQu73 => exact fun _ _ _ h => h
            (try simp only [Act.put, List.setIfInBounds_toArray, List.set_cons_zero, List.set_cons_succ])
            refine wpAnyH_take (i := 1) (oi := ?_) (v := ?_) ?hiu74 (by as_aux_lemma => kernel_rfl) (by as_aux_lemma => kernel_rfl) (by as_aux_lemma => kernel_rfl) ?hQu74 (Or.inl ⟨?hwu74, ?hyu74⟩) hHeld ?restu74
            case hiu74 => simp only [List.getElem?_toArray, List.getElem?_cons_zero, List.getElem?_cons_succ]; rfl
            case hwu74 => rfl
            case hyu74 => (intro w9 hSw; (try dsimp only at hSw); go_simp; (try with_reducible rfl))
            case hQu74 => exact fun _ _ _ h => h
            (try simp only [Act.put, List.setIfInBounds_toArray, List.set_cons_zero, List.set_cons_succ])
            refine wpAnyH_take (i := 2) (oi := ?_) (v := ?_) ?hiu75 (by as_aux_lemma => kernel_rfl) (by as_aux_lemma => kernel_rfl) (by as_aux_lemma => kernel_rfl) ?hQu75 (Or.inl ⟨?hwu75, ?hyu75⟩) hHeld ?restu75
            case hiu75 => simp only [List.getElem?_toArray, List.getElem?_cons_zero, List.getElem?_cons_succ]; rfl
            case hwu75 => rfl
            case hyu75 => (intro w9 hSw; (try dsimp only at hSw); go_simp; (try with_reducible rfl))
            case hQu75 => exact fun _ _ _ h => h
            (try simp only [Act.put, List.setIfInBounds_toArray, List.set_cons_zero, List.set_cons_succ])
            refine wpAnyH_take (i := 3) (oi := ?_) (v := ?_) ?hiu76 (by as_aux_lemma => kernel_rfl) (by as_aux_lemma => kernel_rfl) (by as_aux_lemma => kernel_rfl) ?hQu76 (Or.inl ⟨?hwu76, ?hyu76⟩) hHeld ?restu76
            case hiu76 => simp only [List.getElem?_toArray, List.getElem?_cons_zero, List.getElem?_cons_succ]; rfl
            case hwu76 => rfl
            case hyu76 => (intro w9 hSw; (try dsimp only at hSw); go_simp; (try with_reducible rfl))
            case hQu76 => exact fun _ _ _ h => h
            (try simp only [Act.put, List.setIfInBounds_toArray, List.set_cons_zero, List.set_cons_succ])
            refine wpAnyH_ready (rs := [4]) (by as_aux_lemma => kernel_rfl) (by simp) (AllReadyH.cons (o := ?_) ?hiu77 (fun K hK => ?_) AllReadyH.nil)
            case hiu77 => simp only [List.getElem?_toArray, List.getElem?_cons_zero, List.getElem?_cons_succ]; rfl
            (try rw [if_pos (by rfl)])
            go_wp2_with fail
            refine (hR _).mono ?_
            rintro e w5 ⟨rfl, hb5⟩
            dsimp only
            refine hK.out _ _ ?_ (fun hHeld => ?_)
            · exact keepK1 hHeld hb5
            clear hK K
            (try simp only [Act.put, List.setIfInBounds_toArray, List.set_cons_zero, List.set_cons_succ])
            refine wpAnyH_take (i := 5) (oi := ?_) (v := ?_) ?hiu78 (by as_aux_lemma => kernel_rfl) (by as_aux_lemma => kernel_rfl) (by as_aux_lemma => kernel_rfl) ?hQu78 (Or.inl ⟨?hwu78, ?hyu78⟩) hHeld ?restu78
            case hiu78 => simp only [List.getElem?_toArray, List.getElem?_cons_zero, List.getElem?_cons_succ]; rfl
            case hwu78 => rfl
            case hyu78 => (intro w9 hSw; (try dsimp only at hSw); go_simp; (try with_reducible rfl))
            case hQu78 => exact fun _ _ _ h => h
            (try simp only [Act.put, List.setIfInBounds_toArray, List.set_cons_zero, List.set_cons_succ])
            refine wpAnyH_take (i := 6) (oi := ?_) (v := ?_) ?hiu79 (by as_aux_lemma => kernel_rfl) (by as_aux_lemma => kernel_rfl) (by as_aux_lemma => kernel_rfl) ?hQu79 (Or.inl ⟨?hwu79, ?hyu79⟩) hHeld ?restu79
            case hiu79 => simp only [List.getElem?_toArray, List.getElem?_cons_zero, List.getElem?_cons_succ]; rfl
            case hwu79 => rfl
            case hyu79 => (intro w9 hSw; (try dsimp only at hSw); go_simp; (try with_reducible rfl))
            case hQu79 => exact fun _ _ _ h => h
            (try simp only [Act.put, List.setIfInBounds_toArray, List.set_cons_zero, List.set_cons_succ])
            refine wpAnyH_take (i := 7) (oi := ?_) (v := ?_) ?hiu80 (by as_aux_lemma => kernel_rfl) (by as_aux_lemma => kernel_rfl) (by as_aux_lemma => kernel_rfl) ?hQu80 (Or.inl ⟨?hwu80, ?hyu80⟩) hHeld ?restu80
            case hiu80 => simp only [List.getElem?_toArray, List.getElem?_cons_zero, List.getElem?_cons_succ]; rfl
            case hwu80 => rfl
            case hyu80 => (intro w9 hSw; (try dsimp only at hSw); go_simp; (try with_reducible rfl))
            case hQu80 => exact fun _ _ _ h => h
            (try simp only [Act.put, List.setIfInBounds_toArray, List.set_cons_zero, List.set_cons_succ])
            refine wpAnyH_take (i := 8) (oi := ?_) (v := ?_) ?hiu81 (by as_aux_lemma => kernel_rfl) (by as_aux_lemma => kernel_rfl) (by as_aux_lemma => kernel_rfl) ?hQu81 (Or.inl ⟨?hwu81, ?hyu81⟩) hHeld ?restu81
            case hiu81 => simp only [List.getElem?_toArray, List.getElem?_cons_zero, List.getElem?_cons_succ]; rfl
            case hwu81 => rfl
            case hyu81 => (intro w9 hSw; (try dsimp only at hSw); go_simp; (try with_reducible rfl))
            case hQu81 => exact fun _ _ _ h => h
            (try simp only [Act.put, List.setIfInBounds_toArray, List.set_cons_zero, List.set_cons_succ])
            refine wpAnyH_take (i := 9) (oi := ?_) (v := ?_) ?hiu82 (by as_aux_lemma => kernel_rfl) (by as_aux_lemma => kernel_rfl) (by as_aux_lemma => kernel_rfl) ?hQu82 (Or.inl ⟨?hwu82, ?hyu82⟩) hHeld ?restu82
            case hiu82 => simp only [List.getElem?_toArray, List.getElem?_cons_zero, List.getElem?_cons_succ]; rfl
            case hwu82 => rfl
            case hyu82 => (intro w9 hSw; (try dsimp only at hSw); go_simp; (try with_reducible rfl))
            case hQu82 => exact fun _ _ _ h => h
            (try simp only [Act.put, List.setIfInBounds_toArray, List.set_cons_zero, List.set_cons_succ])
            refine wpAnyH_take (i := 10) (oi := ?_) (v := ?_) ?hiu83 (by as_aux_lemma => kernel_rfl) (by as_aux_lemma => kernel_rfl) (by as_aux_lemma => kernel_rfl) ?hQu83 (Or.inl ⟨?hwu83, ?hyu83⟩) hHeld ?restu83
            case hiu83 => simp only [List.getElem?_toArray, List.getElem?_cons_zero, List.getElem?_cons_succ]; rfl
            case hwu83 => rfl
            case hyu83 => (intro w9 hSw; (try dsimp only at hSw); go_simp; (try with_reducible rfl))
            case hQu83 => exact fun _ _ _ h => h
            (try simp only [Act.put, List.setIfInBounds_toArray, List.set_cons_zero, List.set_cons_succ])
            refine wpAnyH_take (i := 11) (oi := ?_) (v := ?_) ?hiu84 (by as_aux_lemma => kernel_rfl) (by as_aux_lemma => kernel_rfl) (by as_aux_lemma => kernel_rfl) ?hQu84 (Or.inl ⟨?hwu84, ?hyu84⟩) hHeld ?restu84
            case hiu84 => simp only [List.getElem?_toArray, List.getElem?_cons_zero, List.getElem?_cons_succ]; rfl
            case hwu84 => rfl
            case hyu84 => (intro w9 hSw; (try dsimp only at hSw); go_simp; (try with_reducible rfl))
            case hQu84 => exact fun _ _ _ h => h
            (try simp only [Act.put, List.setIfInBounds_toArray, List.set_cons_zero, List.set_cons_succ])
            refine wpAnyH_take (i := 12) (oi := ?_) (v := ?_) ?hiu85 (by as_aux_lemma => kernel_rfl) (by as_aux_lemma => kernel_rfl) (by as_aux_lemma => kernel_rfl) ?hQu85 (Or.inl ⟨?hwu85, ?hyu85⟩) hHeld ?restu85
            case hiu85 => simp only [List.getElem?_toArray, List.getElem?_cons_zero, List.getElem?_cons_succ]; rfl
            case hwu85 => rfl
            case hyu85 => (intro w9 hSw; (try dsimp only at hSw); go_simp; (try with_reducible rfl))
            case hQu85 => exact fun _ _ _ h => h
            (try simp only [Act.put, List.setIfInBounds_toArray, List.set_cons_zero, List.set_cons_succ])
            refine wpAnyH_take (i := 13) (oi := ?_) (v := ?_) ?hiu86 (by as_aux_lemma => kernel_rfl) (by as_aux_lemma => kernel_rfl) (by as_aux_lemma => kernel_rfl) ?hQu86 (Or.inl ⟨?hwu86, ?hyu86⟩) hHeld ?restu86
            case hiu86 => simp only [List.getElem?_toArray, List.getElem?_cons_zero, List.getElem?_cons_succ]; rfl
            case hwu86 => rfl
            case hyu86 => (intro w9 hSw; (try dsimp only at hSw); go_simp; (try with_reducible rfl))
            case hQu86 => exact fun _ _ _ h => h
            (try simp only [Act.put, List.setIfInBounds_toArray, List.set_cons_zero, List.set_cons_succ])
            refine wpAnyH_take (i := 14) (oi := ?_) (v := ?_) ?hiu87 (by as_aux_lemma => kernel_rfl) (by as_aux_lemma => kernel_rfl) (by as_aux_lemma => kernel_rfl) ?hQu87 (Or.inl ⟨?hwu87, ?hyu87⟩) hHeld ?restu87
            case hiu87 => simp only [List.getElem?_toArray, List.getElem?_cons_zero, List.getElem?_cons_succ]; rfl
            case hwu87 => rfl
            case hyu87 => (intro w9 hSw; (try dsimp only at hSw); go_simp; (try with_reducible rfl))
            case hQu87 => exact fun _ _ _ h => h
            (try simp only [Act.put, List.setIfInBounds_toArray, List.set_cons_zero, List.set_cons_succ])
            refine wpAnyH_take (i := 15) (oi := ?_) (v := ?_) ?hiu88 (by as_aux_lemma => kernel_rfl) (by as_aux_lemma => kernel_rfl) (by as_aux_lemma => kernel_rfl) ?hQu88 (Or.inl ⟨?hwu88, ?hyu88⟩) hHeld ?restu88
            case hiu88 => simp only [List.getElem?_toArray, List.getElem?_cons_zero, List.getElem?_cons_succ]; rfl
            case hwu88 => rfl
            case hyu88 => (intro w9 hSw; (try dsimp only at hSw); go_simp; (try with_reducible rfl))
            case hQu88 => exact fun _ _ _ h => h
            (try simp only [Act.put, List.setIfInBounds_toArray, List.set_cons_zero, List.set_cons_succ])
            refine wpAnyH_take (i := 16) (oi := ?_) (v := ?_) ?hiu89 (by as_aux_lemma => kernel_rfl) (by as_aux_lemma => kernel_rfl) (by as_aux_lemma => kernel_rfl) ?hQu89 (Or.inl ⟨?hwu89, ?hyu89⟩) hHeld ?restu89
            case hiu89 => simp only [List.getElem?_toArray, List.getElem?_cons_zero, List.getElem?_cons_succ]; rfl
            case hwu89 => rfl
            case hyu89 => (intro w9 hSw; (try dsimp only at hSw); go_simp; (try with_reducible rfl))
            case hQu89 => exact fun _ _ _ h => h
            (try simp only [Act.put, List.setIfInBounds_toArray, List.set_cons_zero, List.set_cons_succ])
            refine wpAnyH_take (i := 17) (oi := ?_) (v := ?_) ?hiu90 (by as_aux_lemma => kernel_rfl) (by as_aux_lemma => kernel_rfl) (by as_aux_lemma => kernel_rfl) ?hQu90 (Or.inl ⟨?hwu90, ?hyu90⟩) hHeld ?restu90
            case hiu90 => simp only [List.getElem?_toArray, List.getElem?_cons_zero, List.getElem?_cons_succ]; rfl
            case hwu90 => rfl
            case hyu90 => (intro w9 hSw; (try dsimp only at hSw); go_simp; (try with_reducible rfl))
            case hQu90 => exact fun _ _ _ h => h
            (try simp only [Act.put, List.setIfInBounds_toArray, List.set_cons_zero, List.set_cons_succ])
            refine wpAnyH_take (i := 18) (oi := ?_) (v := ?_) ?hiu91 (by as_aux_lemma => kernel_rfl) (by as_aux_lemma => kernel_rfl) (by as_aux_lemma => kernel_rfl) ?hQu91 (Or.inl ⟨?hwu91, ?hyu91⟩) hHeld ?restu91
            case hiu91 => simp only [List.getElem?_toArray, List.getElem?_cons_zero, List.getElem?_cons_succ]; rfl
            case hwu91 => rfl
            case hyu91 => (intro w9 hSw; (try dsimp only at hSw); go_simp; (try with_reducible rfl))
            case hQu91 => exact fun _ _ _ h => h
            (try simp only [Act.put, List.setIfInBounds_toArray, List.set_cons_zero, List.set_cons_succ])
            refine wpAnyH_take (i := 19) (oi := ?_) (v := ?_) ?hiu92 (by as_aux_lemma => kernel_rfl) (by as_aux_lemma => kernel_rfl) (by as_aux_lemma => kernel_rfl) ?hQu92 (Or.inl ⟨?hwu92, ?hyu92⟩) hHeld ?restu92
            case hiu92 => simp only [List.getElem?_toArray, List.getElem?_cons_zero, List.getElem?_cons_succ]; rfl
            case hwu92 => rfl
            case hyu92 => (intro w9 hSw; (try dsimp only at hSw); go_simp; (try with_reducible rfl))
            case hQu92 => exact fun _ _ _ h => h
            (try simp only [Act.put, List.setIfInBounds_toArray, List.set_cons_zero, List.set_cons_succ])
            refine wpAnyH_take (i := 20) (oi := ?_) (v := ?_) ?hiu93 (by as_aux_lemma => kernel_rfl) (by as_aux_lemma => kernel_rfl) (by as_aux_lemma => kernel_rfl) ?hQu93 (Or.inl ⟨?hwu93, ?hyu93⟩) hHeld ?restu93
            case hiu93 => simp only [List.getElem?_toArray, List.getElem?_cons_zero, List.getElem?_cons_succ]; rfl
            case hwu93 => rfl
            case hyu93 => (intro w9 hSw; (try dsimp only at hSw); go_simp; (try with_reducible rfl))
            case hQu93 => exact fun _ _ _ h => h
            (try simp only [Act.put, List.setIfInBounds_toArray, List.set_cons_zero, List.set_cons_succ])
            refine wpAnyH_take (i := 21) (oi := ?_) (v := ?_) ?hiu94 (by as_aux_lemma => kernel_rfl) (by as_aux_lemma => kernel_rfl) (by as_aux_lemma => kernel_rfl) ?hQu94 (Or.inl ⟨?hwu94, ?hyu94⟩) hHeld ?restu94
            case hiu94 => simp only [List.getElem?_toArray, List.getElem?_cons_zero, List.getElem?_cons_succ]; rfl
            case hwu94 => rfl
            case hyu94 => (intro w9 hSw; (try dsimp only at hSw); go_simp; (try with_reducible rfl))
            case hQu94 => exact fun _ _ _ h => h
            (try simp only [Act.put, List.setIfInBounds_toArray, List.set_cons_zero, List.set_cons_succ])
            refine wpAnyH_take (i := 22) (oi := ?_) (v := ?_) ?hiu95 (by as_aux_lemma => kernel_rfl) (by as_aux_lemma => kernel_rfl) (by as_aux_lemma => kernel_rfl) ?hQu95 (Or.inl ⟨?hwu95, ?hyu95⟩) hHeld ?restu95
            case hiu95 => simp only [List.getElem?_toArray, List.getElem?_cons_zero, List.getElem?_cons_succ]; rfl
            case hwu95 => rfl
            case hyu95 => (intro w9 hSw; (try dsimp only at hSw); go_simp; (try with_reducible rfl))
            case hQu95 => exact fun _ _ _ h => h
            (try simp only [Act.put, List.setIfInBounds_toArray, List.set_cons_zero, List.set_cons_succ])
            refine wpAnyH_take (i := 23) (oi := ?_) (v := ?_) ?hiu96 (by as_aux_lemma => kernel_rfl) (by as_aux_lemma => kernel_rfl) (by as_aux_lemma => kernel_rfl) ?hQu96 (Or.inl ⟨?hwu96, ?hyu96⟩) hHeld ?restu96
            case hiu96 => simp only [List.getElem?_toArray, List.getElem?_cons_zero, List.getElem?_cons_succ]; rfl
            case hwu96 => rfl
            case hyu96 => (intro w9 hSw; (try dsimp only at hSw); go_simp; (try with_reducible rfl))
            case hQu96 => exact fun _ _ _ h => h
            (try simp only [Act.put, List.setIfInBounds_toArray, List.set_cons_zero, List.set_cons_succ])
            refine wpAnyH_done (by as_aux_lemma => kernel_rfl) ?_ _
            have HB7 := Lib.hid hHeld.1
            clear hHeld hS
            go_wp2
            go_roundw
            case rel => exact ⟨k + 1, by omega, by go_num, Lib.hid (bT HB.out HB7.out), HT2⟩
            case measure => simp [intOf]; omega
    · have HE : Hid (ringB l = true) := Lib.hid (by have h := HT.out; rw [List.take_of_length_le (by omega)] at h; exact h)
      have k1 : ¬ (k : Int) < (l.length : Int) := by omega
      go_wp2
      go_ret
      exact ⟨by rw [HE.out] <;> rfl, HB.out⟩

theorem rfindOut {r : Option Ky × Int} {l : List Ky} {id : Int} {w0 w w' : World} {a : Act} (hE : findE l id = r) (hr : r.1 = none) (hd : a.defers = []) (hp : a.tmps.getD 4 undef = .pointer (some ⟨w.heap.size, 0, none⟩)) (hv : a.tmps.getD 5 undef = .int .i64 r.2)
    (hF : w'.heap[w.heap.size]? = some (.cells #[.int .i64 0, .slice none 0 0, .int .i64 0, .int .i64 0] 49 (0, 0))) (hb : Below w.heap.size w w') :
    bodyPost Try.prog Try.f37 (FindRet l id w0 w) .ret a (w'.setRow w.heap.size #[.int .i64 0, .slice none 0 0, .int .i64 0, .int .i64 0]) := by
  subst hE
  exact bodyPost_ret (results_keyrow rfl Try.underlying49 rfl hp hv (setRow_heap _ _ _ _ _ _ hF) infoK) hd ⟨⟨none, 0, by rw [hr] <;> rfl, fun k hk => by rw [hr] at hk; cases hk⟩, setRow_below hb (Nat.le_refl _)⟩
theorem rfindOut2 {l : List Ky} {id : Int} {w0 w w' : World} {a : Act} {ky : Ky} {B : Option Addr} {c n : Nat} (hd : a.defers = []) (hp : a.tmps.getD 4 undef = .pointer (some ⟨w.heap.size, 0, none⟩)) (hv : a.tmps.getD 5 undef = .int .i64 0) (hE : findE l id = (some ky, 0)) (hn : ky.sec.length = n)
    (hF : w'.heap[w.heap.size]? = some (.cells #[.int .i64 0, .slice none 0 0, .int .i64 0, .int .i64 0] 49 (0, 0))) (hb : Below w.heap.size w w') (hc : n ≤ c) (hc9 : c ≤ 9223372036854775807) (hr : RdI w0 .u8 B ky.sec) (hby : ∀ x ∈ ky.sec, 0 ≤ x ∧ x < 256) (hrt : rightB ky = true) (hid : ky.id = id) :
    bodyPost Try.prog Try.f37 (FindRet l id w0 w) .ret a (w'.setRow w.heap.size #[.int .i64 ky.id, .slice B n c, .int .i64 ky.fr, .int .i64 ky.til]) := by
  subst hn
  exact bodyPost_ret (results_keyrow rfl Try.underlying49 rfl hp hv (setRow_heap _ _ _ _ _ _ hF) infoK) hd ⟨⟨B, c, by rw [hE] <;> rfl, fun k hk => by
    rw [hE] at hk
    obtain rfl := Option.some.inj hk
    exact ⟨hc, hc9, hr, hby, hrt, hid⟩⟩, setRow_below hb (Nat.le_refl _)⟩
set_option maxHeartbeats 4000000 in
theorem refFind_any (A : Option Addr) (c : Nat) (l : List Ky) (id : Int) (w0 w : World) (hr : RdK w0 A l) (hb9 : Below w0.heap.size w0 w) (hl : l.length ≤ 9223372036854775807) :
    Calls Try.prog 37 #[.slice A l.length c, .int .i64 id] w (FindRet l id w0 w) := by
  have hI := fun W hW => refRingIs_any A c l W hW hl
  have hr0 := (hr.below hb9 (Nat.le_refl _)).below (bel1 w (.cells #[.int .i64 0, .slice none 0 0, .int .i64 0, .int .i64 0] 49)) (Nat.le_refl _)
  have hF0 := heap_alloc_new w (.cells #[.int .i64 0, .slice none 0 0, .int .i64 0, .int .i64 0] 49)
  have hs0 : w.heap.size < (w.alloc (.cells #[.int .i64 0, .slice none 0 0, .int .i64 0, .int .i64 0] 49)).heap.size := by simp
  have hb0 := bel1 w (.cells #[.int .i64 0, .slice none 0 0, .int .i64 0, .int .i64 0] 49)
  cases hz : ringB l with
  | false =>
    have e := (show findE l id = (none, 1) by unfold findE; rw [if_pos hz])
    have E := Lib.hid e
    rw [hz] at hI
    clear e
    go_enter Try.func37, Try.ntmps37
    go_wp2_with (first | (go_at_call 35; (with_reducible refine (hI _ hr0).mono ?_); rintro e w' ⟨rfl, hb⟩; have hF := (hb.block w.heap.size hs0).trans hF0; have hbx := hb0.trans (hb.mono (Nat.le_of_lt hs0)); have hrx := hr0.below hb (Nat.le_refl _)) | (refine wpList_store_row rfl 49 _ _ rfl w.heap.size #[.int .i64 0, .slice none 0 0, .int .i64 0, .int .i64 0] rfl rfl 49 _ hF ?_ ?_ ?_ ?_; (focus (exact infoK)); (focus (exact keySize _ _ _ _ _)); (focus (exact keyOne _ _ _ _ _ _))))
    exact rfindOut E.out rfl rfl rfl rfl hF hbx
  | true =>
    rw [hz] at hI
    have HZ := Lib.hid hz
    have HL := Lib.hid hl
    clear hz
    go_enter Try.func37, Try.ntmps37
    go_wp2_with (go_at_call 35; (with_reducible refine (hI _ hr0).mono ?_); rintro e w' ⟨rfl, hb⟩; have hF := (hb.block w.heap.size hs0).trans hF0; have hbx := hb0.trans (hb.mono (Nat.le_of_lt hs0)); have hrx := hr0.below hb (Nat.le_refl _))
    have HF := Lib.hid hF
    have HBX := Lib.hid hbx
    have HRX := Lib.hid hrx
    have HRW := Lib.hid hr
    clear hF hbx hrx hr hb hF0 hs0 hb0 hr0 hI
    go_loopw [6] (fun i wr => ∃ k : Nat, k ≤ l.length ∧ i = .int .i64 (k : Int) ∧ w' = wr ∧ Hid (∀ (j : Nat) (hj : j < l.length), j < k → l[j].id ≠ id)) (fun i _ => l.length - (intOf i).toNat)
    case atStart => exact ⟨0, Nat.zero_le _, rfl, rfl, Lib.hid (fun j hj h => by omega)⟩
    case round =>
      obtain ⟨k, hk, rfl, rfl, hall⟩ := hrel
      by_cases hlt : k < l.length
      · have hK := HRW.out
        rcases hK with h0 | ⟨ad, rfl, hadl, hka⟩
        · simp [h0] at hlt
        obtain ⟨B, c2, q0, q1, q2, q3, q4, q5, q6, q7⟩ := hka k hlt
        have hbw : Below w0.heap.size w0 w' := hb9.trans (HBX.out.mono hb9.size)
        have r0 := kp hbw q0
        have r1 := kp hbw q1
        have r2 := kp hbw q2
        have r3 := kp hbw q3
        have k0 : (0 : Int) ≤ (k : Int) := by omega
        have k1 : (k : Int) < (l.length : Int) := by omega
        by_cases hid : l[k].id = id
        · have hm := ringGo_mem l (-1) HZ.out l[k] (List.getElem_mem hlt)
          have hiE : 0 ≤ id ∧ id < 100 := by have := rightB_id hm.1; rw [hid] at this; omega
          have hfn : findE l id = (some l[k], 0) := by
            unfold findE
            rw [if_neg (by simp [HZ.out]), if_pos hiE]
            have : l.find? (fun x => x.id == id) = some l[k] := by
              rw [List.find?_eq_some_iff_getElem]
              refine ⟨by simp [hid], k, hlt, rfl, fun j hj => ?_⟩
              simpa using hall.out j (by omega) hj
            rw [this]
          obtain ⟨ky, hky⟩ : ∃ ky, l[k] = ky := ⟨_, rfl⟩
          rw [hky] at r0 r1 r2 r3 q4 q6 q7 hid hfn hm
          obtain ⟨n, hn⟩ : ∃ n, ky.sec.length = n := ⟨_, rfl⟩
          rw [hn] at r1 q4
          have d1 : (ky.id == id) = true := by simp [hid]
          have HID := Lib.hid hid
          have HN := Lib.hid hn
          have HFN := Lib.hid hfn
          have HQ := Lib.hid (show n ≤ c2 ∧ c2 ≤ 9223372036854775807 ∧ RdI w0 .u8 B ky.sec ∧ (∀ x ∈ ky.sec, 0 ≤ x ∧ x < 256) ∧ rightB ky = true from ⟨q4, q5, q6, q7, hm.1⟩)
          have hF := HF.out
          clear hid hn hfn q0 q1 q2 q3 q4 q5 q6 q7 hm hka hky hall hiE hbw
          go_wp2_with (refine wpList_store_row rfl 49 _ _ rfl w.heap.size #[.int .i64 ky.id, .slice B n c2, .int .i64 ky.fr, .int .i64 ky.til] rfl rfl 49 _ hF ?_ ?_ ?_ ?_; (focus (exact infoK)); (focus (exact keySize _ _ _ _ _)); (focus (exact keyOne _ _ _ _ _ _)))
          exact rfindOut2 rfl rfl rfl HFN.out HN.out hF HBX.out HQ.out.1 HQ.out.2.1 HQ.out.2.2.1 HQ.out.2.2.2.1 HQ.out.2.2.2.2 HID.out
        · have d1 : (l[k].id == id) = false := by simpa using hid
          have HX : Hid (∀ (j : Nat) (hj : j < l.length), j < k + 1 → l[j].id ≠ id) := Lib.hid (fun j hj h => by
            by_cases e : j = k
            · subst e; exact hid
            · exact hall.out j hj (by omega))
          generalize l[k].id = kid at *
          clear r1 r2 r3 q0 q1 q2 q3 q4 q5 q6 q7 hka hall hbw hid
          go_wp2
          go_roundw
          case rel => exact ⟨k + 1, by omega, by go_num, by trivial, HX⟩
          case measure => simp [intOf]; omega
      · have k1 : ¬ (k : Int) < (l.length : Int) := by omega
        have e : findE l id = (none, 10) := by
          unfold findE
          rw [if_neg (by simp [HZ.out])]
          have : l.find? (fun x => x.id == id) = none := by
            rw [List.find?_eq_none]
            intro x hx
            obtain ⟨j, hj, rfl⟩ := List.getElem_of_mem hx
            have := hall.out j hj (by omega)
            simpa using this
          rw [this]
          split <;> rfl
        have E := Lib.hid e
        have hF := HF.out
        clear e hall
        go_wp2_with (refine wpList_store_row rfl 49 _ _ rfl w.heap.size #[.int .i64 0, .slice none 0 0, .int .i64 0, .int .i64 0] rfl rfl 49 _ hF ?_ ?_ ?_ ?_; (focus (exact infoK)); (focus (exact keySize _ _ _ _ _)); (focus (exact keyOne _ _ _ _ _ _)))
        exact rfindOut E.out rfl rfl rfl rfl hF HBX.out
end Go.Proofs.Ytachkhjbckapoaa

namespace Go.Proofs.Ytachkhjbckapoaa
open Go.RowKit
set_option linter.unusedVariables false
set_option maxRecDepth 100000
set_option linter.unusedSimpArgs false

theorem refTlvPut_len (A : Option Addr) (c n : Nat) (l : List Fd) (w : World) (hn : l.length = n) (hr : RdF w A l) (hl : n ≤ 9223372036854775807) (ht : tlvB 0 l = true) :
    Calls Try.prog 38 #[.slice A n c] w fun e w' => (∃ A2 c2, e = .returned (.tuple #[.slice A2 (putF l).length c2, .int .i64 0]) ∧ RdI w' .u8 A2 (putF l)) ∧ Below w.heap.size w w' := by
  subst hn
  refine (refTlvPut_any A c l w hr hl).mono ?_
  rintro e w' ⟨v, rfl, ho, hb⟩
  have e1 : putE17 l = (putF l, 0) := by unfold putE17; rw [ht]; rfl
  rw [e1] at ho ⊢
  obtain ⟨A2, c2, rfl, _, _⟩ := own_slice ho
  exact ⟨⟨A2, c2, rfl, RdI.of_own ho⟩, hb⟩
theorem ref19Tag_any2 (A B : Option Addr) (c d n : Nat) (s l : List Int) (w : World) (hn : s.length = n) (hr : RdI w .u8 A s) (hs : RdI w .u8 B l) (hsl : n ≤ 700000) (hsc : n ≤ c) (hl : l.length ≤ 700000) (hsb : ∀ x ∈ s, 0 ≤ x ∧ x < 256) (hlb : ∀ x ∈ l, 0 ≤ x ∧ x < 256) :
    Calls Try.prog 18 #[.slice A n c, .slice B l.length d] w fun e w' => e = .returned (.agg (bv (tagN s (66 :: l))).toArray) ∧ Below w.heap.size w w' := by
  subst hn
  exact ref19Tag_any A B c d s l w hr hs hsl hsc hl hsb hlb

set_option maxHeartbeats 8000000 in
set_option maxRecDepth 100000 in
theorem ref19Encode_any (A : Option Addr) (c : Nat) (ks : List Ky) (a0 a1 a2 a3 a4 a5 a6 a7 a8 a9 a10 a11 a12 a13 a14 : Int) (w : World) (hr : RdK w A ks) (hl : ks.length ≤ 9223372036854775807) :
    Calls Try.prog 10 #[.slice A ks.length c, .agg #[.int .i64 a0, .int .i64 a1, .int .i64 a2, .int .i64 a3, .int .i64 a4, .int .i64 a5, .int .i64 a6, .int .i64 a7, .int .i64 a8, .int .i64 a9, .int .i64 a10, .int .i64 a11, .int .i64 a12, .int .i64 a13, .int .i64 a14]] w (ByteRetE (encE ks [a0, a1, a2, a3, a4, a5, a6, a7, a8, a9, a10, a11, a12, a13, a14]) w) := by
  obtain ⟨i0, hi, hz0, hz1, hz2⟩ := info_parts infoB8
  have hI := fun W hW => refRingIs_any A c ks W hW hl
  have hP := fun W => refFieldsPut_any a0 a1 a2 a3 a4 a5 a6 a7 a8 a9 a10 a11 a12 a13 a14 W
  have hF := fun W hb => refFind_any A c ks a11 w W hr hb hl
  obtain ⟨l, hll⟩ : ∃ l : List Int, [a0, a1, a2, a3, a4, a5, a6, a7, a8, a9, a10, a11, a12, a13, a14] = l := ⟨_, rfl⟩
  have h15 : l.length = 15 := by rw [← hll]; rfl
  have h11 : l.getD 11 0 = a11 := by rw [← hll]; rfl
  rw [hll] at hP ⊢
  have HR := Lib.hid hr
  have H15 := Lib.hid h15
  have H11 := Lib.hid h11
  clear hll hr h15 h11
  have hb0 := bel1 w (.cells #[.int .i64 a0, .int .i64 a1, .int .i64 a2, .int .i64 a3, .int .i64 a4, .int .i64 a5, .int .i64 a6, .int .i64 a7, .int .i64 a8, .int .i64 a9, .int .i64 a10, .int .i64 a11, .int .i64 a12, .int .i64 a13, .int .i64 a14] 28)
  have HB0 := Lib.hid hb0
  have HN0 := Lib.hid (heap_alloc_new w (.cells #[.int .i64 a0, .int .i64 a1, .int .i64 a2, .int .i64 a3, .int .i64 a4, .int .i64 a5, .int .i64 a6, .int .i64 a7, .int .i64 a8, .int .i64 a9, .int .i64 a10, .int .i64 a11, .int .i64 a12, .int .i64 a13, .int .i64 a14] 28))
  cases hz : ringB ks with
  | false =>
    have E := Lib.hid (show encE ks l = ([], 1) by unfold encE encF; rw [hz]; rfl)
    rw [hz] at hI
    clear hz
    go_enter Try.func10, Try.ntmps10
    go_wp2_with (go_at_call 35; (with_reducible refine (hI _ (HR.out.below hb0 (Nat.le_refl _))).mono ?_); rintro e w1 ⟨rfl, hb1⟩)
    go_ret2
    exact ⟨_, by rw [E.out] <;> rfl, by rw [E.out]; exact World.ownsRow_nil _ _ _ _, bT hb0 hb1⟩
  | true =>
    rw [hz] at hI
    have HFE := Lib.hid (show encF ks l = fpE l by unfold encF; rw [hz]; rfl)
    clear hz
    have ISARM := trivial
    cases hq : (fpE l).2 != 0 with
    | true =>
      have hq' : (fpE l).2 ≠ 0 := by simpa using hq
      have E := Lib.hid (show encE ks l = ([], (fpE l).2) by unfold encE; rw [HFE.out, if_pos hq'])
      generalize fpE l = fr at *
      have HQ := Lib.hid hq
      go_enter Try.func10, Try.ntmps10
      go_wp2_with (first | (go_at_call 35; (with_reducible refine (hI _ (HR.out.below hb0 (Nat.le_refl _))).mono ?_); rintro e w1 ⟨rfl, hb1⟩; have HB1 := Lib.hid (bT hb0 hb1); have HN1 := Lib.hid ((hb1.block w.heap.size (by simp)).trans HN0.out); obtain ⟨hcb1, hfb1⟩ := bcell hb1) | (go_at_call 36; (with_reducible refine (hP _).mono ?_); rintro e w2 ⟨v2, L2, rfl, hm2, ho2, hb2⟩; have HB2 := Lib.hid (bT HB1.out hb2); have HN2 := Lib.hid ((hb2.block w.heap.size (Array.getElem?_eq_some_iff.1 HN1.out).1).trans HN1.out); have HM2 := Lib.hid hm2; have HO2 := Lib.hid ho2; have hk2 : w2.cell? ⟨w.heap.size, 11, none⟩ = some (.int .i64 a11) := cell_of_row _ _ 11 _ _ _ HN2.out; clear hcb1 hfb1 hm2 ho2 hb2))
      go_ret2
      exact ⟨_, by rw [E.out] <;> rfl, by rw [E.out]; exact World.ownsRow_nil _ _ _ _, HB2.out⟩
    | false =>
      have hq' : (fpE l).2 = 0 := by simpa using hq
      obtain ⟨q, hqq⟩ : ∃ q, fpE l = (q, 0) := ⟨(fpE l).1, by rw [← hq']⟩
      obtain ⟨b1, b2, b3⟩ := fields_back H15.out hqq
      have HT := Lib.hid b2
      have hqb : ∀ f ∈ q, ∀ x ∈ f.val, 0 ≤ x ∧ x < 256 := by
        have h := fp_bytes 13 l [] (by simp)
        unfold fpE at hqq
        rw [if_pos b1] at hqq
        rw [hqq] at h
        exact h
      have HQB := Lib.hid (put_bytes b2 hqb)
      have hql : (putF q).length ≤ 70000 := by
        have h1 := tlvB_facts q 0 b2 (by omega)
        have h2 := rputF_len q (fun f hf => (h1.2 f hf).2.2)
        omega
      have HQL := Lib.hid hql
      rw [hqq] at hP
      have HFQ := Lib.hid hqq
      clear hq hq' hqq b1 b2 b3 hqb hql
      obtain ⟨fk, hfk⟩ : ∃ fk, findE ks a11 = fk := ⟨_, rfl⟩
      have HFK := Lib.hid hfk
      cases hke : fk.2 != 0 with
      | true =>
        have hke' : fk.2 ≠ 0 := by simpa using hke
        have E : Hid (encE ks l = ([], fk.2)) := Lib.hid (by
          unfold encE
          rw [HFE.out, HFQ.out, H11.out, HFK.out]
          simp only [ne_eq, not_true_eq_false, if_false]
          obtain ⟨f1, f2⟩ := fk
          cases f1 with
          | none => rfl
          | some k =>
            have := findE_some (ks := ks) (id := a11) (k := k) (by rw [hfk])
            rw [hfk] at this
            simp at this
            exact absurd this hke')
        have hF2 : ∀ W, Below w.heap.size w W → Calls Try.prog 37 #[.slice A ks.length c, .int .i64 a11] W fun e W' => (∃ (x0 x2 x3 : Int) (B : Option Addr) (n cB : Nat), e = .returned (.tuple #[.agg #[.int .i64 x0, .slice B n cB, .int .i64 x2, .int .i64 x3], .int .i64 fk.2])) ∧ Below W.heap.size W W' := by
          intro W hW
          refine (hF W hW).mono ?_
          rintro e W' ⟨⟨B, cB, rfl, _⟩, hb⟩
          rw [hfk]
          refine ⟨?_, hb⟩
          cases fk.1 with
          | none => exact ⟨0, 0, 0, none, 0, 0, rfl⟩
          | some k => exact ⟨_, _, _, _, _, _, rfl⟩
        clear hF hfk
        generalize fk.2 = fe at *
        go_enter Try.func10, Try.ntmps10
        go_wp2_with (first | (go_at_call 35; (with_reducible refine (hI _ (HR.out.below hb0 (Nat.le_refl _))).mono ?_); rintro e w1 ⟨rfl, hb1⟩; have HB1 := Lib.hid (bT hb0 hb1); have HN1 := Lib.hid ((hb1.block w.heap.size (by simp)).trans HN0.out); obtain ⟨hcb1, hfb1⟩ := bcell hb1) | (go_at_call 36; (with_reducible refine (hP _).mono ?_); rintro e w2 ⟨v2, L2, rfl, hm2, ho2, hb2⟩; have HB2 := Lib.hid (bT HB1.out hb2); have HN2 := Lib.hid ((hb2.block w.heap.size (Array.getElem?_eq_some_iff.1 HN1.out).1).trans HN1.out); obtain ⟨A2, c2, hv2, hc2, hc29, hrd2⟩ := ho2.rdF; subst hv2; rw [hm2] at hrd2; have HM2 := Lib.hid (show q.length = L2.length by have h := congrArg List.length hm2; rw [List.length_map] at h; exact h.symm); have HRD2 := Lib.hid hrd2; have hk2 : w2.cell? ⟨w.heap.size, 11, none⟩ = some (.int .i64 a11) := cell_of_row _ _ 11 _ _ _ HN2.out; clear hcb1 hfb1 hm2 ho2 hb2 hrd2 hc2 hc29) | (go_at_call 37; (with_reducible refine (hF2 _ HB2.out).mono ?_); rintro e w3 ⟨⟨x0, x2, x3, B, n, cB, rfl⟩, hb3⟩; have HB3 := Lib.hid (bT HB2.out hb3)))
        go_ret2
        exact ⟨_, by rw [E.out] <;> rfl, by rw [E.out]; exact World.ownsRow_nil _ _ _ _, bA HB3.out _⟩
      | false =>
        have hke' : fk.2 = 0 := by simpa using hke
        obtain ⟨f1, f2⟩ := fk
        simp only at hke'
        subst hke'
        obtain ⟨k, rfl⟩ : ∃ k, f1 = some k := by
          cases f1 with
          | none => exact absurd (by rw [hfk]) (findE_none (ks := ks) (id := a11) (by rw [hfk]))
          | some k => exact ⟨k, rfl⟩
        have E : Hid (encE ks l = (fortyPut (putF q ++ tagN k.sec (66 :: putF q)), 0)) := Lib.hid (by
          have e1 : putE17 q = (putF q, 0) := by unfold putE17; rw [HT.out]; rfl
          have h := encE_ok (ks := ks) (l := l) (k := k) (by rw [HFE.out, HFQ.out]) (by rw [H11.out]; exact hfk) (by rw [HFE.out, HFQ.out, e1])
          rw [HFE.out, HFQ.out, e1] at h
          exact h)
        obtain ⟨n, hn⟩ : ∃ n, k.sec.length = n := ⟨_, rfl⟩
        have HNN := Lib.hid hn
        have hF2 : ∀ W, Below w.heap.size w W → Calls Try.prog 37 #[.slice A ks.length c, .int .i64 a11] W fun e W' => (∃ (B : Option Addr) (cB : Nat), e = .returned (.tuple #[.agg #[.int .i64 k.id, .slice B n cB, .int .i64 k.fr, .int .i64 k.til], .int .i64 0]) ∧ Hid (n ≤ cB ∧ RdI w .u8 B k.sec ∧ (∀ x ∈ k.sec, 0 ≤ x ∧ x < 256) ∧ n ≤ 64)) ∧ Below W.heap.size W W' := by
          intro W hW
          refine (hF W hW).mono ?_
          rintro e W' ⟨⟨B, cB, rfl, hk⟩, hb⟩
          rw [hfk] at hk ⊢
          obtain ⟨q1, q2, q3, q4, q5, q6⟩ := hk k rfl
          refine ⟨⟨B, cB, by rw [← hn]; rfl, Lib.hid ⟨by omega, q3, q4, by rw [← hn]; exact (rightB_len q5).2⟩⟩, hb⟩
        clear hF hfk hke hn HFK
        obtain ⟨b, hb⟩ : ∃ b, putF q = b := ⟨_, rfl⟩
        obtain ⟨T, hT⟩ : ∃ T, tagN k.sec (66 :: b) = T := ⟨_, rfl⟩
        have HTL : Hid (T.length = 32) := Lib.hid (by rw [← hT]; exact tagN_len _ _)
        have HTB : Hid (∀ x ∈ T, 0 ≤ x ∧ x < 256) := Lib.hid (by rw [← hT]; exact tagN_byte _ _)
        rw [hb] at E HQB HQL
        rw [hT] at E
        have HBQ := Lib.hid hb
        have HTE := Lib.hid hT
        clear hb hT
        go_enter Try.func10, Try.ntmps10
        go_wp2_with (first | (go_at_call 35; (with_reducible refine (hI _ (HR.out.below hb0 (Nat.le_refl _))).mono ?_); rintro e w1 ⟨rfl, hb1⟩; have HB1 := Lib.hid (bT hb0 hb1); have HN1 := Lib.hid ((hb1.block w.heap.size (by simp)).trans HN0.out); obtain ⟨hcb1, hfb1⟩ := bcell hb1) | (go_at_call 36; (with_reducible refine (hP _).mono ?_); rintro e w2 ⟨v2, L2, rfl, hm2, ho2, hb2⟩; have HB2 := Lib.hid (bT HB1.out hb2); have HN2 := Lib.hid ((hb2.block w.heap.size (Array.getElem?_eq_some_iff.1 HN1.out).1).trans HN1.out); obtain ⟨A2, c2, hv2, hc2, hc29, hrd2⟩ := ho2.rdF; subst hv2; rw [hm2] at hrd2; have HM2 := Lib.hid (show q.length = L2.length by have h := congrArg List.length hm2; rw [List.length_map] at h; exact h.symm); have HRD2 := Lib.hid hrd2; have hk2 : w2.cell? ⟨w.heap.size, 11, none⟩ = some (.int .i64 a11) := cell_of_row _ _ 11 _ _ _ HN2.out; clear hcb1 hfb1 hm2 ho2 hb2 hrd2 hc2 hc29) | (go_at_call 37; (with_reducible refine (hF2 _ HB2.out).mono ?_); rintro e w3 ⟨⟨B, cB, rfl, HK⟩, hb3⟩; have HB3 := Lib.hid (bA (bT HB2.out hb3) (.cells #[.int .i64 k.id, .slice B n cB, .int .i64 k.fr, .int .i64 k.til] 49)); have HRD3 := Lib.hid (HRD2.out.below (bA hb3 (.cells #[.int .i64 k.id, .slice B n cB, .int .i64 k.fr, .int .i64 k.til] 49)) (Nat.le_refl _)); clear hb3 hk2) | (go_at_call 38; (with_reducible refine (refTlvPut_len A2 c2 L2.length q _ HM2.out HRD3.out (by have := (tlvB_facts q 0 HT.out (by omega)).1; have := HM2.out; omega) HT.out).mono ?_); rw [HBQ.out]; rintro e w4 ⟨⟨Ab, cb, rfl, hrb⟩, hb4⟩; have HB4 := Lib.hid (bT HB3.out hb4); have HRB4 := Lib.hid hrb; have hks := (hb4.cell (p := ⟨w3.heap.size, 1, none⟩) (by simp)).trans (cell_of_row _ w3.heap.size 1 _ _ _ (heap_alloc_new w3 _)); clear hrb hb4))
        refine (ref19Tag_any2 B Ab cB cb n k.sec b _ HNN.out (HK.out.2.1.below HB4.out) HRB4.out (by have := HK.out.2.2.2; omega) HK.out.1 (by have := HQL.out; omega) HK.out.2.2.1 HQB.out).mono ?_
        rw [HTE.out]
        rintro e w5 ⟨rfl, hb5⟩
        have HB5 := Lib.hid (bT HB4.out hb5)
        have HRB5 := Lib.hid (HRB4.out.below hb5)
        clear hb5 hks
        obtain ⟨w6, hw6, g6, hb6, hz6⟩ := newRow w5 (bv (List.replicate 32 0)).toArray (bv T).toArray 42
        have HW6 := Lib.hid hw6
        have HB6 := Lib.hid (bT HB5.out hb6)
        have HRB6 := Lib.hid (HRB5.out.below hb6)
        have HG6 := Lib.hid g6
        clear hw6 g6 hb6 hz6
        go_wp2_with (first | (refine wpList_store_row rfl 42 _ _ rfl w5.heap.size (bv T).toArray rfl rfl 42 _ (heap_alloc_new w5 _) ?_ ?_ (all_one (bv_one _)) ?_; (focus (rw [List.size_toArray, bv_len, HTL.out]; exact info32)); (focus (show 32 = (bv T).toArray.size; rw [List.size_toArray, bv_len, HTL.out])); generalize hW3 : World.setRow _ _ _ = w33; obtain rfl : w6 = w33 := (by rw [← HW6.out, ← hW3]; kernel_rfl); have HO6 : Hid ((w6.alloc (.cells #[] 5)).ownsRow w6.heap.size 5 1 (.slice (some ⟨w6.heap.size, 0, none⟩) 0 0) ([] : List Int).length (([] : List Int).map (.int .u8))) := Lib.hid (own_lit0 w6 5 .u8); have HB6' := Lib.hid (bA HB6.out (.cells #[] 5)); have HRB6' := Lib.hid (HRB6.out.below (bel1 w6 (.cells #[] 5)))) | (at_builtin; (refine wpL_app (k := .u8) rfl (.tmp 45) (.tmp 46) 30 rfl w6.heap.size 5 i0 (.int .u8 0) 1 Try.underlying30 hi hz0 hz1 hz2 rfl _ [] rfl HO6.out _ _ b rfl HRB6'.out ?_ ?_ ?_ ?_; (focus (have := HQL.out; refine maxLen_ge ?_; simp only [List.length_nil]; omega)); (focus (have := HQL.out; simp only [List.length_nil]; omega)); (focus (rw [World.size_alloc]; omega)); intro v7 w7 ho7 hg7 _; have HO7 := Lib.hid ho7; have HB7 := Lib.hid (show Below w6.heap.size w6 w7 from (bel1 w6 _).grown hg7 (by rw [World.size_alloc]; omega) (own_ge HO6.out)); clear ho7 hg7)) | (at_builtin; (refine wpL_app_len (k := .u8) rfl (.tmp 48) (.tmp 49) 30 rfl w6.heap.size 5 i0 (.int .u8 0) 1 Try.underlying30 hi hz0 hz1 hz2 rfl _ ([] ++ b) rfl HO7.out _ _ 32 T HTL.out rfl (rd_row ((HB7.out.block w5.heap.size (Array.getElem?_eq_some_iff.1 HG6.out).1).trans HG6.out)) ?_ ?_ ?_ ?_; (focus (have := HQL.out; refine maxLen_ge ?_; simp only [List.nil_append]; omega)); (focus (have := HQL.out; simp only [List.nil_append]; omega)); (focus (exact HB7.out.size)); intro v8 w8 ho8 hg8 _; have HO8 := Lib.hid ho8; have HB8 := Lib.hid (HB7.out.grown hg8 HB7.out.size (own_ge HO7.out)); clear ho8 hg8)))
        obtain ⟨A8, c8, rfl, hc8, _⟩ := own_slice HO8.out
        have hr8 := RdI.of_own HO8.out
        have HB9 := Lib.hid (bT HB6.out HB8.out)
        refine (refFortyPut_any A8 c8 ([] ++ b ++ T) w8 hr8 (by have := HQL.out; have := HTL.out; simp only [List.nil_append, List.length_append]; omega) (fun x hx => by
          rw [List.nil_append] at hx
          exact (List.mem_append.1 hx).elim (HQB.out x) (HTB.out x))).mono ?_
        rintro e w9 ⟨v9, rfl, ho9, hb9⟩
        have HO9 := Lib.hid ho9
        have HBE := Lib.hid (bT HB9.out hb9)
        have HZ := Lib.hid HB9.out.size
        clear ho9 hb9 hr8
        go_wp2
        go_ret2
        exact ⟨v9, by rw [E.out] <;> rfl, by rw [E.out]; exact own_base HO9.out HZ.out, HBE.out⟩
end Go.Proofs.Ytachkhjbckapoaa

namespace Go.Proofs.Ytachkhjbckapoaa
open Go.RowKit
set_option linter.unusedVariables false
set_option maxRecDepth 100000
set_option linter.unusedSimpArgs false

def bigB (l : List Ky) : Bool := decide (200 < l.length) || l.any (fun k => decide (200 < k.sec.length))
def BigRet (l : List Ky) (w : World) (e : Ending) (w' : World) : Prop := e = .returned (.bool (bigB l)) ∧ w = w'
theorem big_any (A : Option Addr) (c : Nat) (l : List Ky) (w : World) (hr : RdK w A l) (hl : l.length ≤ 9223372036854775807) :
    Calls Try.prog 8 #[.slice A l.length c] w (BigRet l w) := by
  by_cases h200 : (l.length : Int) ≤ 200
  · have d200 : decide ((200 : Int) < (l.length : Int)) = false := by simp; omega
    go_enter Try.func8, Try.ntmps8
    go_wp2
    go_loopw [3] (fun i wr => ∃ k : Nat, k ≤ l.length ∧ i = .int .i64 k ∧ w = wr ∧ Hid (∀ (j : Nat) (hj : j < l.length), j < k → ¬ 200 < l[j].sec.length)) (fun i _ => l.length - (intOf i).toNat)
    case atStart => exact ⟨0, Nat.zero_le _, rfl, rfl, Lib.hid (fun j hj h => by omega)⟩
    case round =>
      obtain ⟨k, hk, rfl, rfl, hall⟩ := hrel
      by_cases hlt : k < l.length
      · rcases hr with h0 | ⟨ad, rfl, _, hka⟩
        · simp [h0] at hlt
        obtain ⟨B, c2, c0, c1, _⟩ := hka k hlt
        have HF : Hid (∃ f, l[k] = f ∧ f ∈ l) := Lib.hid ⟨_, rfl, List.getElem_mem hlt⟩
        obtain ⟨n2, hn2⟩ : ∃ n2, l[k].sec.length = n2 := ⟨_, rfl⟩
        rw [hn2] at c1
        have HN2 := Lib.hid hn2
        generalize l[k].id = id at c0
        clear hka hn2
        have k0 : (0 : Int) ≤ (k : Int) := by omega
        have k1 : (k : Int) < (l.length : Int) := by omega
        by_cases g : (200 : Int) < (n2 : Int)
        · have HB := Lib.hid (show bigB l = true by
            unfold bigB
            rw [Bool.or_eq_true]
            right
            exact List.any_eq_true.2 ⟨l[k], List.getElem_mem hlt, by simp; have := HN2.out; omega⟩)
          clear HN2 HF
          go_wp2
          go_ret
          exact ⟨by rw [HB.out] <;> rfl, rfl⟩
        · have HX : Hid (∀ (j : Nat) (hj : j < l.length), j < k + 1 → ¬ 200 < l[j].sec.length) := Lib.hid (fun j hj h => by
            by_cases e : j = k
            · subst e; have := HN2.out; omega
            · exact hall.out j hj (by omega))
          clear HN2 HF hall
          go_wp2
          exact ⟨⟨k + 1, by omega, by go_num, by trivial, HX⟩, by simp [intOf]; omega⟩
      · have k1 : ¬ (k : Int) < (l.length : Int) := by omega
        have HB := Lib.hid (show bigB l = false by
          unfold bigB
          rw [Bool.or_eq_false_iff]
          refine ⟨by simp; omega, List.any_eq_false.2 fun x hx => ?_⟩
          obtain ⟨j, hj, rfl⟩ := List.getElem_of_mem hx
          have := hall.out j hj (by omega)
          simpa using this)
        clear hall
        go_wp2
        go_ret
        exact ⟨by rw [HB.out] <;> rfl, rfl⟩
  · have d200 : decide ((200 : Int) < (l.length : Int)) = true := by simp; omega
    have HB := Lib.hid (show bigB l = true by unfold bigB; rw [decide_eq_true (by omega)]; rfl)
    by_cases hz : (0 : Int) < (l.length : Int)
    rotate_left
    · omega
    go_enter Try.func8, Try.ntmps8
    go_wp2
    go_loopw [3] (fun i wr => i = .int .i64 0 ∧ w = wr) (fun i _ => 0)
    case atStart => exact ⟨rfl, rfl⟩
    case round =>
      obtain ⟨rfl, rfl⟩ := hrel
      go_wp2
      go_ret
      exact ⟨by rw [HB.out] <;> rfl, rfl⟩
end Go.Proofs.Ytachkhjbckapoaa

namespace Go.Proofs.Ytachkhjbckapoaa
open Go.RowKit
set_option linter.unusedVariables false
set_option maxRecDepth 100000
set_option linter.unusedSimpArgs false

theorem byteRetE_slice {r : List Int × Int} {P : Program} {f : FuncId} {args : Array Value} {w : World} (h : Calls P f args w (ByteRetE r w)) :
    Calls P f args w fun e w' => (∃ Ac cc, e = .returned (.tuple #[.slice Ac r.1.length cc, .int .i64 r.2]) ∧ r.1.length ≤ 9223372036854775807 ∧ RdI w' .u8 Ac r.1) ∧ Below w.heap.size w w' := by
  refine h.mono ?_
  rintro e w' ⟨v, rfl, ho, hb⟩
  obtain ⟨Ac, cc, rfl, h1, h2⟩ := own_slice ho
  exact ⟨⟨Ac, cc, rfl, by unfold maxLen at h2; omega, RdI.of_own ho⟩, hb⟩
set_option maxHeartbeats 8000000 in
set_option maxRecDepth 100000 in
theorem barcodeEncodes_any (A : Option Addr) (c : Nat) (ks : List Ky) (a0 a1 a2 a3 a4 a5 a6 a7 a8 a9 a10 a11 a12 a13 a14 : Int) (w : World) (hr : RdK w A ks) (hl : ks.length ≤ 9223372036854775807) :
    Calls Try.prog 3 #[.slice A ks.length c, .agg #[.int .i64 a0, .int .i64 a1, .int .i64 a2, .int .i64 a3, .int .i64 a4, .int .i64 a5, .int .i64 a6, .int .i64 a7, .int .i64 a8, .int .i64 a9, .int .i64 a10, .int .i64 a11, .int .i64 a12, .int .i64 a13, .int .i64 a14]] w fun e w' => e = .returned (.bool true) ∧ Below w.heap.size w w' := by
  have hB := fun W hW => big_any A c ks W hW hl
  have hE := fun W hW => byteRetE_slice (bcEncode_any A c ks a0 a1 a2 a3 a4 a5 a6 a7 a8 a9 a10 a11 a12 a13 a14 W hW hl)
  have hF := fun W hW => byteRetE_slice (ref19Encode_any A c ks a0 a1 a2 a3 a4 a5 a6 a7 a8 a9 a10 a11 a12 a13 a14 W hW hl)
  generalize encE ks [a0, a1, a2, a3, a4, a5, a6, a7, a8, a9, a10, a11, a12, a13, a14] = r at *
  obtain ⟨s, e⟩ := r
  obtain ⟨n, hn⟩ : ∃ n, s.length = n := ⟨_, rfl⟩
  have HN := Lib.hid hn
  simp only [hn] at hE hF
  have HR := Lib.hid hr
  clear hn hr
  have hb0 := bel1 w (.cells #[.int .i64 a0, .int .i64 a1, .int .i64 a2, .int .i64 a3, .int .i64 a4, .int .i64 a5, .int .i64 a6, .int .i64 a7, .int .i64 a8, .int .i64 a9, .int .i64 a10, .int .i64 a11, .int .i64 a12, .int .i64 a13, .int .i64 a14] 28)
  have HR0 := Lib.hid (HR.out.below hb0 (Nat.le_refl _))
  cases hbg : bigB ks with
  | true =>
    go_enter Try.func3, Try.ntmps3
    go_wp2_with (go_at_call 8; (with_reducible refine (hB _ HR0.out).mono ?_); rintro e1 w1 ⟨he, rfl⟩; rw [hbg] at he; subst he)
    go_ret
    exact ⟨rfl, hb0⟩
  | false =>
    have hSm : ∀ (Aa Ab : Option Addr) (ca cb : Nat) (W : World), n ≤ 9223372036854775807 → RdI W .u8 Aa s → RdI W .u8 Ab s → Calls Try.prog 12 #[.slice Aa n ca, .slice Ab n cb] W fun e w' => e = .returned (.bool true) ∧ Below W.heap.size W w' := by
      intro Aa Ab ca cb W h0 h1 h2
      have h := same01_any Aa Ab ca cb s s W h1 h2 (by rw [HN.out]; omega) (by rw [HN.out]; omega)
      rw [HN.out] at h
      refine h.mono ?_
      rintro e w' ⟨rfl, k, rfl⟩
      exact ⟨by simp, bN (Below.refl _ _) k⟩
    go_enter Try.func3, Try.ntmps3
    go_wp2_with (first | (go_at_call 8; (with_reducible refine (hB _ HR0.out).mono ?_); rintro e1 w1 ⟨he, rfl⟩; rw [hbg] at he; subst he) | (go_at_call 9; (with_reducible refine (hE _ HR0.out).mono ?_); rintro e1 w2 ⟨⟨Aa, ca, rfl, hn9, hra⟩, hb2⟩; have HB2 := Lib.hid (bT hb0 hb2); have HRA := Lib.hid hra; have HR2 := Lib.hid (HR0.out.below hb2 (Nat.le_refl _)); obtain ⟨hcb2, hfb2⟩ := bcell hb2; clear hra) | (go_at_call 10; (with_reducible refine (hF _ HR2.out).mono ?_); rintro e1 w3 ⟨⟨Ab, cb, rfl, _, hrb⟩, hb3⟩; have HB3 := Lib.hid (bT HB2.out hb3); have HRA3 := Lib.hid (HRA.out.below hb3); have HRB3 := Lib.hid hrb; clear hrb hcb2 hfb2) | (go_at_call 11; (with_reducible refine (coded19_any _).mono ?_); rintro e1 w4 ⟨rfl, hb4⟩; have HB4 := Lib.hid (bT HB3.out hb4); have HRA4 := Lib.hid (HRA3.out.below hb4); have HRB4 := Lib.hid (HRB3.out.below hb4); clear hb4) | (go_at_call 12; (with_reducible refine (hSm _ _ _ _ _ hn9 HRA4.out HRB4.out).mono ?_); rintro e1 w5 ⟨rfl, hb5⟩; have HB5 := Lib.hid (bT HB4.out hb5); clear hb5))
    go_ret
    exact ⟨by simp, HB5.out⟩
end Go.Proofs.Ytachkhjbckapoaa

namespace Go.Proofs.Ytachkhjbckapoaa
open Go.RowKit
set_option linter.unusedVariables false
set_option maxRecDepth 100000
set_option linter.unusedSimpArgs false

/-- The four cells of a key that was laid: a number, a slice of bytes, two numbers. -/
theorem key_cells {H : Type} {enc : TypeId × Value → H} {W : World} {n : Nat} {cs : List Value} {x : DataW H × List MemPlace} (hl : cs.length = 4) (h : DataW.trod enc Try.prog W 0 (fun _ => true) true n 49 cs = some x) :
    ∃ (id fr til : Int) (B : Option Addr) (c : Nat) (sec : List Int), cs = [.int .i64 id, .slice B sec.length c, .int .i64 fr, .int .i64 til] ∧ sec.length ≤ c ∧ c ≤ 9223372036854775807 ∧ RdI W .u8 B sec ∧ ∀ b ∈ sec, 0 ≤ b ∧ b < 256 := by
  have L := open_leaves 6 49 (by kernel_rfl) n _ _ (by rw [hl]; kernel_rfl) h
  rw [show leavesOf Try.prog 6 49 = [3, 30, 3, 3] from by kernel_rfl] at L
  obtain ⟨c0, m0, rfl, g0, L⟩ := Lv_cons L
  obtain ⟨c1, m1, rfl, g1, L⟩ := Lv_cons L
  obtain ⟨c2, m2, rfl, g2, L⟩ := Lv_cons L
  obtain ⟨c3, m3, rfl, g3, L⟩ := Lv_cons L
  obtain rfl := Lv_nil L
  obtain ⟨id, rfl, _⟩ := leaf_int Try.underlying3 g0
  obtain ⟨fr, rfl, _⟩ := leaf_int Try.underlying3 g2
  obtain ⟨til, rfl, _⟩ := leaf_int Try.underlying3 g3
  obtain ⟨B, len, c, zs, rfl, hz⟩ := leaf_row Try.underlying30 Try.underlying5 (by kernel_rfl) g1
  obtain ⟨k1, k2⟩ := row_caps hz
  obtain ⟨sec, rfl, r1, r2, r3⟩ := rd_of_row hz
  exact ⟨id, fr, til, B, c, sec, rfl, k1, k2, r1, wfu8 r3⟩
theorem keys_upto {w : World} {a : Addr} : ∀ (n : Nat), (∀ j, j < n → ∃ k, KeyAt w (a.add (j * 4)) k) → ∃ l : List Ky, l.length = n ∧ ∀ j, (h : j < l.length) → KeyAt w (a.add (j * 4)) l[j]
  | 0, _ => ⟨[], rfl, fun j h => by simp at h⟩
  | n + 1, h => by
    obtain ⟨l, hl, hk⟩ := keys_upto n (fun j hj => h j (by omega))
    obtain ⟨k, hkn⟩ := h n (by omega)
    refine ⟨l ++ [k], by simp [hl], fun j hj => ?_⟩
    rw [List.length_append] at hj
    by_cases hjl : j < l.length
    · rw [List.getElem_append_left hjl]; exact hk j hjl
    · have : j = n := by simp at hj; omega
      subst this
      rw [List.getElem_append_right (by omega)]
      simpa [hl] using hkn
theorem keys_open {H : Type} {enc : TypeId × Value → H} {W : World} {n : Nat} {A : Option Addr} {len cap : Nat} {x : DataW H × List MemPlace} (h : DataW.trod enc Try.prog W 0 (fun _ => true) true n 22 [.slice A len cap] = some x) :
    ∃ ks : List Ky, len = ks.length ∧ RdK W A ks ∧ ks.length ≤ 9223372036854775807 := by
  rcases DataW.trod_slice Try.underlying22 h with ⟨hcs, _⟩ | ⟨a, len2, cap2, elems, rest, m, _, hcs, _, _, hle, hmx, hel, hat, _⟩
  · simp only [List.cons.injEq, Value.slice.injEq, and_true] at hcs
    obtain ⟨rfl, rfl, rfl⟩ := hcs
    exact ⟨[], rfl, .inl rfl, by simp⟩
  · simp only [List.cons.injEq, Value.slice.injEq, and_true] at hcs
    obtain ⟨rfl, rfl, rfl⟩ := hcs
    have hc4 : Try.prog.cellsOf 49 = 4 := by kernel_rfl
    rw [hc4] at hat
    have hk : ∀ j, j < len → ∃ k, KeyAt W (a.add (j * 4)) k := by
      intro j hj
      have e := hat j hj
      rw [List.getElem?_eq_getElem (by omega)] at e
      obtain ⟨cs, e1, e2⟩ := Option.bind_eq_some_iff.1 e
      obtain ⟨_, f2, f3⟩ := World.cells?_some e1
      obtain ⟨id, fr, til, B, c, sec, rfl, k1, k2, k3, k4⟩ := key_cells f2 e2
      have g0 := f3 0 (by omega)
      have g1 := f3 1 (by omega)
      have g2 := f3 2 (by omega)
      have g3 := f3 3 (by omega)
      rw [add_zero] at g0
      rw [show (a.add (j * 4)).add 1 = ⟨(a.add (j * 4)).block, (a.add (j * 4)).off + 1, none⟩ from add_succ _ 0] at g1
      rw [show (a.add (j * 4)).add 2 = ⟨(a.add (j * 4)).block, (a.add (j * 4)).off + 2, none⟩ from add_succ _ 1] at g2
      rw [show (a.add (j * 4)).add 3 = ⟨(a.add (j * 4)).block, (a.add (j * 4)).off + 3, none⟩ from add_succ _ 2] at g3
      exact ⟨⟨id, sec, fr, til⟩, B, c, g0, g1, g2, g3, k1, k2, k3, k4⟩
    obtain ⟨ks, hkl, hks⟩ := keys_upto len hk
    unfold maxLen at hmx
    refine ⟨ks, hkl.symm, ?_, by omega⟩
    by_cases h0 : len = 0
    · left; exact List.eq_nil_of_length_eq_zero (by omega)
    · obtain ⟨k, B, c, g0, _⟩ := hk 0 (by omega)
      have := World.block_lt_of_cell? W _ g0
      rw [add_block] at this
      exact .inr ⟨a, rfl, this, hks⟩
end Go.Proofs.Ytachkhjbckapoaa

namespace Go.Proofs.Ytachkhjbckapoaa.barcodeEncodes
open Go.ChangeShapes Go.WideShapes Go.ChangeAt Go.RowKit
open Go.ChangeMaps (open_string shut_string)
set_option linter.unusedVariables false
set_option maxRecDepth 100000
theorem own : ownKnob Try.prog.godebug = none := by kernel_rfl
theorem laidOut : laidOutB Try.prog = true := by kernel_rfl
set_option maxRecDepth 100000 in
theorem lifted (os : Os) (started : os.Started) (H : Type) (enc : TypeId × Value → H) :
    ReturnsInHanded {} Try.checked os 3 .any (Rows.barcodeEncodesSpec.pre6 enc Try.prog Try.f3 Rows.barcodeEncodesRow.domain false) (Rows.barcodeEncodesSpec.post enc Try.prog Try.f3 false true false false) := by
  refine returnsInHanded_of_change_sized (C := Try.checked) own started (by kernel_rfl) Try.func3
    (ChangeSpec.witness6 (enc := enc) (C := Try.checked) false ⟨#[], #[.slice none 0 0, .agg #[.int .i64 0, .int .i64 0, .int .i64 0, .int .i64 0, .int .i64 0, .int .i64 0, .int .i64 0, .int .i64 0, .int .i64 0, .int .i64 0, .int .i64 0, .int .i64 0, .int .i64 0, .int .i64 0, .int .i64 0]], []⟩ 8 (by kernel_rfl) (by kernel_rfl) (by kernel_rfl) (by kernel_rfl)) ?_
  intro W base args ds gs before hval0 hW hcnd hsz0 _
  have hsz : (DataW.weightsEach Try.prog (Try.f3.params.toList ++ Rows.barcodeEncodesSpec.plain.varTypes Try.prog) (ds ++ gs)).all (· ≤ reachBytes) = true := hsz0
  have hval : ∀ (j : Nat) t v, Try.f3.params[j]? = some t → args[j]? = some v → Value.okWide Try.prog W .any base t v := hval0
  have hW' := hW
  obtain ⟨p, q, hA0, hV, rfl, hfz, hnd⟩ := hW
  have hA : DataW.TrodAll enc Try.prog W 0 (fun _ => true) true Try.f3.params.toList args.toList ds p := hA0
  rw [Try.params3] at hA hval hsz
  obtain ⟨v0, vs0, d0, ds0, p0, q0, hargs, rfl, rfl, h0, r0⟩ := trodAll_cons hA
  obtain ⟨v1, vs1, d1, ds1, p1, q1, rfl, rfl, rfl, h1, r1⟩ := trodAll_cons r0
  obtain ⟨rfl, rfl, rfl⟩ := trodAll_nil r1
  obtain rfl : args = #[v0, v1] := by cases args; simp_all
  obtain ⟨rfl, rfl⟩ := trodVars_none hV
  obtain ⟨A0, len0, cap0, rfl⟩ := okWide_slice Try.underlying22 (hval 0 22 v0 rfl rfl)
  have k0 := h0
  have lt0 : ∀ x ∈ p0, x.block < W.heap.size := by obtain ⟨m, hm⟩ := k0; exact DataW.trod_lt m _ _ _ hm
  obtain ⟨ks0, rfl, hr0, hl0⟩ : ∃ ks : List Ky, len0 = ks.length ∧ RdK W A0 ks ∧ ks.length ≤ 9223372036854775807 := by
    obtain ⟨fuel, hf⟩ := h0
    exact keys_open hf
  have k1 := h1
  have lt1 : ∀ x ∈ p1, x.block < W.heap.size := by obtain ⟨m, hm⟩ := k1; exact DataW.trod_lt m _ _ _ hm
  obtain ⟨cs1, rfl, hc1⟩ := okWide_struct Try.underlying28 (hval 1 28 v1 rfl rfl)
  obtain ⟨l1⟩ := cs1
  obtain ⟨fu1, hf1⟩ := h1
  have L1 := open_leaves 6 28 (by kernel_rfl) fu1 _ _ (by simpa [Value.cells] using hc1) hf1
  rw [show leavesOf Try.prog 6 28 = [3, 3, 3, 3, 3, 3, 3, 3, 3, 3, 3, 3, 3, 3, 3] from by kernel_rfl] at L1
  simp only [Value.cells] at L1
  obtain ⟨c1_0, m1_0, rfl, g1_0, L1⟩ := Lv_cons L1
  obtain ⟨c1_1, m1_1, rfl, g1_1, L1⟩ := Lv_cons L1
  obtain ⟨c1_2, m1_2, rfl, g1_2, L1⟩ := Lv_cons L1
  obtain ⟨c1_3, m1_3, rfl, g1_3, L1⟩ := Lv_cons L1
  obtain ⟨c1_4, m1_4, rfl, g1_4, L1⟩ := Lv_cons L1
  obtain ⟨c1_5, m1_5, rfl, g1_5, L1⟩ := Lv_cons L1
  obtain ⟨c1_6, m1_6, rfl, g1_6, L1⟩ := Lv_cons L1
  obtain ⟨c1_7, m1_7, rfl, g1_7, L1⟩ := Lv_cons L1
  obtain ⟨c1_8, m1_8, rfl, g1_8, L1⟩ := Lv_cons L1
  obtain ⟨c1_9, m1_9, rfl, g1_9, L1⟩ := Lv_cons L1
  obtain ⟨c1_10, m1_10, rfl, g1_10, L1⟩ := Lv_cons L1
  obtain ⟨c1_11, m1_11, rfl, g1_11, L1⟩ := Lv_cons L1
  obtain ⟨c1_12, m1_12, rfl, g1_12, L1⟩ := Lv_cons L1
  obtain ⟨c1_13, m1_13, rfl, g1_13, L1⟩ := Lv_cons L1
  obtain ⟨c1_14, m1_14, rfl, g1_14, L1⟩ := Lv_cons L1
  obtain rfl := Lv_nil L1
  obtain ⟨a1_0, rfl, w1_0⟩ := leaf_int Try.underlying3 g1_0
  obtain ⟨a1_1, rfl, w1_1⟩ := leaf_int Try.underlying3 g1_1
  obtain ⟨a1_2, rfl, w1_2⟩ := leaf_int Try.underlying3 g1_2
  obtain ⟨a1_3, rfl, w1_3⟩ := leaf_int Try.underlying3 g1_3
  obtain ⟨a1_4, rfl, w1_4⟩ := leaf_int Try.underlying3 g1_4
  obtain ⟨a1_5, rfl, w1_5⟩ := leaf_int Try.underlying3 g1_5
  obtain ⟨a1_6, rfl, w1_6⟩ := leaf_int Try.underlying3 g1_6
  obtain ⟨a1_7, rfl, w1_7⟩ := leaf_int Try.underlying3 g1_7
  obtain ⟨a1_8, rfl, w1_8⟩ := leaf_int Try.underlying3 g1_8
  obtain ⟨a1_9, rfl, w1_9⟩ := leaf_int Try.underlying3 g1_9
  obtain ⟨a1_10, rfl, w1_10⟩ := leaf_int Try.underlying3 g1_10
  obtain ⟨a1_11, rfl, w1_11⟩ := leaf_int Try.underlying3 g1_11
  obtain ⟨a1_12, rfl, w1_12⟩ := leaf_int Try.underlying3 g1_12
  obtain ⟨a1_13, rfl, w1_13⟩ := leaf_int Try.underlying3 g1_13
  obtain ⟨a1_14, rfl, w1_14⟩ := leaf_int Try.underlying3 g1_14
  clear hA0 hval0 hsz0 hsz
  refine (barcodeEncodes_any A0 cap0 ks0 a1_0 a1_1 a1_2 a1_3 a1_4 a1_5 a1_6 a1_7 a1_8 a1_9 a1_10 a1_11 a1_12 a1_13 a1_14 W hr0 hl0).mono fun e W' ⟨he, bel⟩ => ?_
  subst he
  exact ⟨_, rfl, _, _, _, [], _, [], hW', trodAll_mk1 (shut_bool Try.underlying4 _), (trodAll_cons_mk (Below.trod laidOut (by kernel_rfl) (of_decide_eq_true (by kernel_rfl)) k0 bel lt0) (trodAll_cons_mk (Below.trod laidOut (by kernel_rfl) (of_decide_eq_true (by kernel_rfl)) k1 bel lt1) trodAll_mk0)), rfl, bel.frame _, fun h => by cases h⟩
theorem over : Rows.barcodeEncodesRow.holds Try.pinned (OpenSpec.ofChange Rows.barcodeEncodesSpec) :=
  OpenClaim.holds_of_wide 3 Try.f3 rfl rfl rfl rfl rfl rfl rfl ⟨rfl, rfl, rfl, rfl, rfl⟩ rfl rfl rfl rfl rfl (by kernel_rfl) Try.func3 (by kernel_rfl)
    (of_decide_eq_true (by kernel_rfl)) (by unfold Func.isWrapper; first | (rw [if_pos (by decide +kernel)]; kernel_rfl) | (rw [if_neg (by decide +kernel)]; exact ⟨rfl, rfl⟩))
    (fun os started H enc _ => lifted os started H enc)
theorem proved : Rows.BarcodeEncodesSaid := over
#print axioms proved
end Go.Proofs.Ytachkhjbckapoaa.barcodeEncodes
namespace Go.Proofs.Ytachkhjbckapoaa
theorem barcodeEncodes_holds : Rows.BarcodeEncodesSaid := barcodeEncodes.proved
end Go.Proofs.Ytachkhjbckapoaa

