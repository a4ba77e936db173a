/- Layer 19, plain: what a barcode says as bytes, and what bytes say. Layer 18: where the number of a tag stands in a sheet. Layer 18: what fields.Put computes where it refuses at once. No condition. -/
import Derived.Test.YtnbghgenaolfgaaGreatZ13
import Derived.Test.YtnbghgenaolfgaaGreatZ01
import Derived.Test.YtnbghgenaolfgaaGreatZ06
import Derived.StillTailTactics
import Derived.Test.YtnbghgenaolfgaaGreatZ09
namespace Go.Proofs.YtnbghgenaolfgaaGreat
open Go.RowKit
set_option linter.unusedVariables false
set_option maxRecDepth 100000
set_option linter.unusedSimpArgs false

def encF (ks : List Ky) (l : List Int) : List Fd × Int := if ringB ks then fpE l else ([], 1)
/-- What barcode.Encode computes. -/
def encE (ks : List Ky) (l : List Int) : List Int × Int :=
  if (encF ks l).2 ≠ 0 then ([], (encF ks l).2) else match findE ks (l.getD 11 0) with
    | (none, e) => ([], e)
    | (some k, _) => if (putE17 (encF ks l).1).2 ≠ 0 then ([], (putE17 (encF ks l).1).2) else (fortyPut (putF (encF ks l).1 ++ tagN k.sec (66 :: putF (encF ks l).1)), 0)
/-- What barcode.open computes: the body, the tag, the fields; the error. -/
def openE (s : List Int) : (List Int × List Int × List Fd) × Int :=
  if (fortyGet s).2 ≠ 0 then (([], [], []), (fortyGet s).2)
  else if (fortyGet s).1.length < 32 then (([], [], []), 14)
  else (((fortyGet s).1.take ((fortyGet s).1.length - 32), (fortyGet s).1.drop ((fortyGet s).1.length - 32), (tlvGet ((fortyGet s).1.take ((fortyGet s).1.length - 32))).1), (tlvGet ((fortyGet s).1.take ((fortyGet s).1.length - 32))).2)
/-- What a body, a tag and fields say. -/
def decF (ks : List Ky) (bd tg : List Int) (q : List Fd) : List Int × Int :=
  if (fgE q).2 ≠ 0 then (zL, (fgE q).2)
  else match findE ks ((fgE q).1.getD 11 0) with
    | (none, e) => (zL, e)
    | (some k, _) => if (tg == tagN k.sec (66 :: bd)) = true then ((fgE q).1, 0) else (zL, 11)
/-- What barcode.Decode computes. -/
def decE (ks : List Ky) (s : List Int) : List Int × Int :=
  if ringB ks = false then (zL, 1)
  else if (openE s).2 ≠ 0 then (zL, (openE s).2)
  else decF ks (openE s).1.1 (openE s).1.2.1 (openE s).1.2.2
/-- What barcode.Version computes. -/
def verF (l : List Fd) : Int × Int := match l with
  | [] => (0, 12)
  | f :: _ => if f.tag ≠ 1 ∨ f.val.length ≠ 1 ∨ f.val.getD 0 0 < 1 ∨ 3 < f.val.getD 0 0 then (0, 12) else (f.val.getD 0 0, 0)
def verW (s : List Int) : Int × Int := if (openE s).2 ≠ 0 then (0, (openE s).2) else verF (openE s).1.2.2
end Go.Proofs.YtnbghgenaolfgaaGreat

namespace Go.Proofs.YtnbghgenaolfgaaGreat
open Go.RowKit
set_option linter.unusedVariables false
set_option maxRecDepth 100000
set_option linter.unusedSimpArgs false

set_option maxHeartbeats 2000000 in
set_option maxRecDepth 100000 in
theorem fplace_any (g : Nat) (t : Int) (w : World) (h1 : 1 ≤ t) (h2 : t ≤ 13) :
    Calls Tryz.prog 150 #[.pointer (some ⟨g, 0, none⟩), .int .i64 t] w fun e w' => e = .returned (.pointer (some ⟨g, plc t, none⟩)) ∧ Below w.heap.size w w' := by
  have d1 : ¬ t < 1 := by omega
  have d2 : ¬ 13 < t := by omega
  have d3 : (0 : Int) ≤ t := by omega
  have d4 : t < 14 := by omega
  have d5 : ¬ t < 0 := by omega
  have hL : ∀ h : t.toNat < ([.pointer none, .pointer (some ⟨g, 14, none⟩), .pointer (some ⟨g, 11, none⟩), .pointer (some ⟨g, 1, none⟩), .pointer (some ⟨g, 0, none⟩), .pointer (some ⟨g, 2, none⟩), .pointer (some ⟨g, 3, none⟩), .pointer (some ⟨g, 4, none⟩), .pointer (some ⟨g, 5, none⟩), .pointer (some ⟨g, 6, none⟩), .pointer (some ⟨g, 7, none⟩), .pointer (some ⟨g, 8, none⟩), .pointer (some ⟨g, 9, none⟩), .pointer (some ⟨g, 10, none⟩)] : List Value).length, ([.pointer none, .pointer (some ⟨g, 14, none⟩), .pointer (some ⟨g, 11, none⟩), .pointer (some ⟨g, 1, none⟩), .pointer (some ⟨g, 0, none⟩), .pointer (some ⟨g, 2, none⟩), .pointer (some ⟨g, 3, none⟩), .pointer (some ⟨g, 4, none⟩), .pointer (some ⟨g, 5, none⟩), .pointer (some ⟨g, 6, none⟩), .pointer (some ⟨g, 7, none⟩), .pointer (some ⟨g, 8, none⟩), .pointer (some ⟨g, 9, none⟩), .pointer (some ⟨g, 10, none⟩)] : List Value)[t.toNat] = .pointer (some ⟨g, plc t, none⟩) := by
    have : t = 1 ∨ t = 2 ∨ t = 3 ∨ t = 4 ∨ t = 5 ∨ t = 6 ∨ t = 7 ∨ t = 8 ∨ t = 9 ∨ t = 10 ∨ t = 11 ∨ t = 12 ∨ t = 13 := by omega
    rcases this with rfl | rfl | rfl | rfl | rfl | rfl | rfl | rfl | rfl | rfl | rfl | rfl | rfl <;> exact fun _ => rfl
  have HL := Lib.hid hL
  clear hL
  go_enter Tryz.func150, Tryz.ntmps150
  go_wp2
  go_still_tail 41, (by kernel_rfl)
  go_wp2_with fail
  go_ret
  exact ⟨by rw [HL.out] <;> rfl, bD (bel1 _ _)⟩

set_option maxHeartbeats 2000000 in
set_option maxRecDepth 100000 in
theorem fplace_no (g : Nat) (t : Int) (w : World) (h : t < 1 ∨ 13 < t) :
    Calls Tryz.prog 150 #[.pointer (some ⟨g, 0, none⟩), .int .i64 t] w fun e w' => e = .returned (.pointer none) ∧ Below w.heap.size w w' := by
  by_cases h1 : t < 1
  · clear h
    go_enter Tryz.func150, Tryz.ntmps150
    go_wp2
    go_still_tail 41, (by kernel_rfl)
    go_wp2
    go_ret
    exact ⟨rfl, bD (bel1 _ _)⟩
  · have h2 : 13 < t := by omega
    clear h
    go_enter Tryz.func150, Tryz.ntmps150
    go_wp2
    go_still_tail 41, (by kernel_rfl)
    go_wp2
    go_ret
    exact ⟨rfl, bD (bel1 _ _)⟩
end Go.Proofs.YtnbghgenaolfgaaGreat

namespace Go.Proofs.YtnbghgenaolfgaaGreat
open Go.RowKit
set_option linter.unusedVariables false
set_option maxRecDepth 100000
set_option linter.unusedSimpArgs false

set_option maxHeartbeats 4000000 in
set_option maxRecDepth 100000 in
theorem fieldsPut_b1 (a0 a1 a2 a3 a4 a5 a6 a7 a8 a9 a10 a11 a12 a13 a14 : Int) (w : World) (E : Hid (fpE [a0, a1, a2, a3, a4, a5, a6, a7, a8, a9, a10, a11, a12, a13, a14] = ([], 1))) (hT : tkB a0 a1 a2 a3 a4 a5 a6 a7 a8 a9 a10 = false)  :
    Calls Tryz.prog 139 #[.agg #[.int .i64 a0, .int .i64 a1, .int .i64 a2, .int .i64 a3, .int .i64 a4, .int .i64 a5, .int .i64 a6, .int .i64 a7, .int .i64 a8, .int .i64 a9, .int .i64 a10, .int .i64 a11, .int .i64 a12, .int .i64 a13, .int .i64 a14]] w (FieldsRet (fpE [a0, a1, a2, a3, a4, a5, a6, a7, a8, a9, a10, a11, a12, a13, a14]) w) := by
  go_enter Tryz.func139, Tryz.ntmps139
  go_wp2_with (go_at_call 85; (with_reducible refine (tk_any a0 a1 a2 a3 a4 a5 a6 a7 a8 a9 a10 _).mono ?_); rintro e w1 ⟨he, hb1⟩; rw [hT] at he; subst he; obtain ⟨hcb1, hfb1⟩ := bcell hb1; have hlt1 : w.heap.size < w1.heap.size := (by have := hb1.size; simp at this; omega); have HB1 := Lib.hid (bT (bel1 w _) hb1); clear hb1)
  all_goals (go_ret2; exact ⟨_, [], by rw [E.out] <;> rfl, by rw [E.out] <;> rfl, OwnF.nil _ _, HB1.out⟩)

set_option maxHeartbeats 4000000 in
set_option maxRecDepth 100000 in
theorem fieldsPut_b2 (a0 a1 a2 a3 a4 a5 a6 a7 a8 a9 a10 a11 a12 a13 a14 : Int) (w : World) (E : Hid (fpE [a0, a1, a2, a3, a4, a5, a6, a7, a8, a9, a10, a11, a12, a13, a14] = ([], 1))) (hT : tkB a0 a1 a2 a3 a4 a5 a6 a7 a8 a9 a10 = true) (d1 : decide (a11 < 0) = true)  :
    Calls Tryz.prog 139 #[.agg #[.int .i64 a0, .int .i64 a1, .int .i64 a2, .int .i64 a3, .int .i64 a4, .int .i64 a5, .int .i64 a6, .int .i64 a7, .int .i64 a8, .int .i64 a9, .int .i64 a10, .int .i64 a11, .int .i64 a12, .int .i64 a13, .int .i64 a14]] w (FieldsRet (fpE [a0, a1, a2, a3, a4, a5, a6, a7, a8, a9, a10, a11, a12, a13, a14]) w) := by
  go_enter Tryz.func139, Tryz.ntmps139
  go_wp2_with (go_at_call 85; (with_reducible refine (tk_any a0 a1 a2 a3 a4 a5 a6 a7 a8 a9 a10 _).mono ?_); rintro e w1 ⟨he, hb1⟩; rw [hT] at he; subst he; obtain ⟨hcb1, hfb1⟩ := bcell hb1; have hlt1 : w.heap.size < w1.heap.size := (by have := hb1.size; simp at this; omega); have HB1 := Lib.hid (bT (bel1 w _) hb1); clear hb1)
  all_goals (go_ret2; exact ⟨_, [], by rw [E.out] <;> rfl, by rw [E.out] <;> rfl, OwnF.nil _ _, HB1.out⟩)

set_option maxHeartbeats 4000000 in
set_option maxRecDepth 100000 in
theorem fieldsPut_b3 (a0 a1 a2 a3 a4 a5 a6 a7 a8 a9 a10 a11 a12 a13 a14 : Int) (w : World) (E : Hid (fpE [a0, a1, a2, a3, a4, a5, a6, a7, a8, a9, a10, a11, a12, a13, a14] = ([], 1))) (hT : tkB a0 a1 a2 a3 a4 a5 a6 a7 a8 a9 a10 = true) (d1 : decide (a11 < 0) = false) (d2 : decide (100 ≤ a11) = true)  :
    Calls Tryz.prog 139 #[.agg #[.int .i64 a0, .int .i64 a1, .int .i64 a2, .int .i64 a3, .int .i64 a4, .int .i64 a5, .int .i64 a6, .int .i64 a7, .int .i64 a8, .int .i64 a9, .int .i64 a10, .int .i64 a11, .int .i64 a12, .int .i64 a13, .int .i64 a14]] w (FieldsRet (fpE [a0, a1, a2, a3, a4, a5, a6, a7, a8, a9, a10, a11, a12, a13, a14]) w) := by
  go_enter Tryz.func139, Tryz.ntmps139
  go_wp2_with (go_at_call 85; (with_reducible refine (tk_any a0 a1 a2 a3 a4 a5 a6 a7 a8 a9 a10 _).mono ?_); rintro e w1 ⟨he, hb1⟩; rw [hT] at he; subst he; obtain ⟨hcb1, hfb1⟩ := bcell hb1; have hlt1 : w.heap.size < w1.heap.size := (by have := hb1.size; simp at this; omega); have HB1 := Lib.hid (bT (bel1 w _) hb1); clear hb1)
  all_goals (go_ret2; exact ⟨_, [], by rw [E.out] <;> rfl, by rw [E.out] <;> rfl, OwnF.nil _ _, HB1.out⟩)

set_option maxHeartbeats 4000000 in
set_option maxRecDepth 100000 in
theorem fieldsPut_b4 (a0 a1 a2 a3 a4 a5 a6 a7 a8 a9 a10 a11 a12 a13 a14 : Int) (w : World) (E : Hid (fpE [a0, a1, a2, a3, a4, a5, a6, a7, a8, a9, a10, a11, a12, a13, a14] = ([], 1))) (hT : tkB a0 a1 a2 a3 a4 a5 a6 a7 a8 a9 a10 = true) (d1 : decide (a11 < 0) = false) (d2 : decide (100 ≤ a11) = false) (d3 : (a12 == 0) = false)  :
    Calls Tryz.prog 139 #[.agg #[.int .i64 a0, .int .i64 a1, .int .i64 a2, .int .i64 a3, .int .i64 a4, .int .i64 a5, .int .i64 a6, .int .i64 a7, .int .i64 a8, .int .i64 a9, .int .i64 a10, .int .i64 a11, .int .i64 a12, .int .i64 a13, .int .i64 a14]] w (FieldsRet (fpE [a0, a1, a2, a3, a4, a5, a6, a7, a8, a9, a10, a11, a12, a13, a14]) w) := by
  go_enter Tryz.func139, Tryz.ntmps139
  go_wp2_with (go_at_call 85; (with_reducible refine (tk_any a0 a1 a2 a3 a4 a5 a6 a7 a8 a9 a10 _).mono ?_); rintro e w1 ⟨he, hb1⟩; rw [hT] at he; subst he; obtain ⟨hcb1, hfb1⟩ := bcell hb1; have hlt1 : w.heap.size < w1.heap.size := (by have := hb1.size; simp at this; omega); have HB1 := Lib.hid (bT (bel1 w _) hb1); clear hb1)
  all_goals (go_ret2; exact ⟨_, [], by rw [E.out] <;> rfl, by rw [E.out] <;> rfl, OwnF.nil _ _, HB1.out⟩)

set_option maxHeartbeats 4000000 in
set_option maxRecDepth 100000 in
theorem fieldsPut_b5 (a0 a1 a2 a3 a4 a5 a6 a7 a8 a9 a10 a11 a12 a13 a14 : Int) (w : World) (E : Hid (fpE [a0, a1, a2, a3, a4, a5, a6, a7, a8, a9, a10, a11, a12, a13, a14] = ([], 1))) (hT : tkB a0 a1 a2 a3 a4 a5 a6 a7 a8 a9 a10 = true) (d1 : decide (a11 < 0) = false) (d2 : decide (100 ≤ a11) = false) (d3 : (a12 == 0) = true) (d3b : (a13 == 0) = false)  :
    Calls Tryz.prog 139 #[.agg #[.int .i64 a0, .int .i64 a1, .int .i64 a2, .int .i64 a3, .int .i64 a4, .int .i64 a5, .int .i64 a6, .int .i64 a7, .int .i64 a8, .int .i64 a9, .int .i64 a10, .int .i64 a11, .int .i64 a12, .int .i64 a13, .int .i64 a14]] w (FieldsRet (fpE [a0, a1, a2, a3, a4, a5, a6, a7, a8, a9, a10, a11, a12, a13, a14]) w) := by
  go_enter Tryz.func139, Tryz.ntmps139
  go_wp2_with (go_at_call 85; (with_reducible refine (tk_any a0 a1 a2 a3 a4 a5 a6 a7 a8 a9 a10 _).mono ?_); rintro e w1 ⟨he, hb1⟩; rw [hT] at he; subst he; obtain ⟨hcb1, hfb1⟩ := bcell hb1; have hlt1 : w.heap.size < w1.heap.size := (by have := hb1.size; simp at this; omega); have HB1 := Lib.hid (bT (bel1 w _) hb1); clear hb1)
  all_goals (go_ret2; exact ⟨_, [], by rw [E.out] <;> rfl, by rw [E.out] <;> rfl, OwnF.nil _ _, HB1.out⟩)

set_option maxHeartbeats 4000000 in
set_option maxRecDepth 100000 in
theorem fieldsPut_b6 (a0 a1 a2 a3 a4 a5 a6 a7 a8 a9 a10 a11 a12 a13 a14 : Int) (w : World) (E : Hid (fpE [a0, a1, a2, a3, a4, a5, a6, a7, a8, a9, a10, a11, a12, a13, a14] = ([], 1))) (hT : tkB a0 a1 a2 a3 a4 a5 a6 a7 a8 a9 a10 = true) (d1 : decide (a11 < 0) = false) (d2 : decide (100 ≤ a11) = false) (d3 : (a12 == 0) = true) (d3b : (a13 == 0) = true) (d4 : decide (a14 < 1) = true)  :
    Calls Tryz.prog 139 #[.agg #[.int .i64 a0, .int .i64 a1, .int .i64 a2, .int .i64 a3, .int .i64 a4, .int .i64 a5, .int .i64 a6, .int .i64 a7, .int .i64 a8, .int .i64 a9, .int .i64 a10, .int .i64 a11, .int .i64 a12, .int .i64 a13, .int .i64 a14]] w (FieldsRet (fpE [a0, a1, a2, a3, a4, a5, a6, a7, a8, a9, a10, a11, a12, a13, a14]) w) := by
  go_enter Tryz.func139, Tryz.ntmps139
  go_wp2_with (go_at_call 85; (with_reducible refine (tk_any a0 a1 a2 a3 a4 a5 a6 a7 a8 a9 a10 _).mono ?_); rintro e w1 ⟨he, hb1⟩; rw [hT] at he; subst he; obtain ⟨hcb1, hfb1⟩ := bcell hb1; have hlt1 : w.heap.size < w1.heap.size := (by have := hb1.size; simp at this; omega); have HB1 := Lib.hid (bT (bel1 w _) hb1); clear hb1)
  all_goals (go_ret2; exact ⟨_, [], by rw [E.out] <;> rfl, by rw [E.out] <;> rfl, OwnF.nil _ _, HB1.out⟩)

set_option maxHeartbeats 4000000 in
set_option maxRecDepth 100000 in
theorem fieldsPut_b7 (a0 a1 a2 a3 a4 a5 a6 a7 a8 a9 a10 a11 a12 a13 a14 : Int) (w : World) (E : Hid (fpE [a0, a1, a2, a3, a4, a5, a6, a7, a8, a9, a10, a11, a12, a13, a14] = ([], 1))) (hT : tkB a0 a1 a2 a3 a4 a5 a6 a7 a8 a9 a10 = true) (d1 : decide (a11 < 0) = false) (d2 : decide (100 ≤ a11) = false) (d3 : (a12 == 0) = true) (d3b : (a13 == 0) = true) (d4 : decide (a14 < 1) = false) (d5 : decide (3 < a14) = true) :
    Calls Tryz.prog 139 #[.agg #[.int .i64 a0, .int .i64 a1, .int .i64 a2, .int .i64 a3, .int .i64 a4, .int .i64 a5, .int .i64 a6, .int .i64 a7, .int .i64 a8, .int .i64 a9, .int .i64 a10, .int .i64 a11, .int .i64 a12, .int .i64 a13, .int .i64 a14]] w (FieldsRet (fpE [a0, a1, a2, a3, a4, a5, a6, a7, a8, a9, a10, a11, a12, a13, a14]) w) := by
  go_enter Tryz.func139, Tryz.ntmps139
  go_wp2_with (go_at_call 85; (with_reducible refine (tk_any a0 a1 a2 a3 a4 a5 a6 a7 a8 a9 a10 _).mono ?_); rintro e w1 ⟨he, hb1⟩; rw [hT] at he; subst he; obtain ⟨hcb1, hfb1⟩ := bcell hb1; have hlt1 : w.heap.size < w1.heap.size := (by have := hb1.size; simp at this; omega); have HB1 := Lib.hid (bT (bel1 w _) hb1); clear hb1)
  all_goals (go_ret2; exact ⟨_, [], by rw [E.out] <;> rfl, by rw [E.out] <;> rfl, OwnF.nil _ _, HB1.out⟩)

end Go.Proofs.YtnbghgenaolfgaaGreat
