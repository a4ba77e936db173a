/- Layer 22: the version that two devices use, and use for a ticket. No condition. -/
import Derived.Test.YthejnlelegcgfaaNego
namespace Go.Proofs.Ythejnlelegcgfaa
open Go.RowKit
set_option linter.unusedVariables false
set_option linter.unusedSimpArgs false

theorem pickV_nil {a b : List Int} (h : comL a b = []) : pickV a b = 0 := by unfold pickV; rw [h]; rfl
theorem pickE_nil {a b : List Int} (h : comE a b = 0) (k : comL a b = []) : pickE a b = 12 := by unfold pickE; rw [if_neg (by simp [h]), if_pos k]
theorem pickE_ok {a b : List Int} (h : comE a b = 0) (k : comL a b ≠ []) : pickE a b = 0 := by unfold pickE; rw [if_neg (by simp [h]), if_neg k]

set_option maxHeartbeats 4000000 in
theorem pick_any (A B : Option Addr) (c d : Nat) (l m : List Int) (w : World) (hr : RdI w .i64 A l) (hs : RdI w .i64 B m) (hl : l.length ≤ 9223372036854775807) (hm : m.length ≤ 9223372036854775807) :
    Calls Try.prog 38 #[.slice A l.length c, .slice B m.length d] w fun e w' => e = .returned (.tuple #[.int .i64 (pickV l m), .int .i64 (pickE l m)]) ∧ Below w.heap.size w w' := by
  by_cases hE : comE l m = 0
  · have hd : (comE l m != 0) = false := by simpa using hE
    by_cases hL : comL l m = []
    · have E1 := Lib.hid (pickV_nil hL)
      have E2 := Lib.hid (pickE_nil hE hL)
      have hlen : ((comL l m).length : Int) = 0 := by rw [hL]; rfl
      have hdl : (((comL l m).length : Int) == 0) = true := by rw [hlen]; rfl
      clear hL hE hlen
      go_enter Try.func38, Try.ntmps38
      go_wp2_with (go_at_call 36; (with_reducible refine (common_any _ _ _ _ _ _ _ hr hs hl hm).mono ?_); rintro e w' ⟨v, rfl, ho, hb⟩; obtain ⟨vA, vc, rfl, _, _⟩ := own_slice ho; have hrd := RdI.of_own ho; have HO := Lib.hid ho; clear ho)
      go_ret2
      exact ⟨by rw [E1.out, E2.out] <;> rfl, hb⟩
    · have E2 := Lib.hid (pickE_ok hE hL)
      have hpos := List.length_pos_iff.mpr hL
      obtain ⟨j, hj⟩ : ∃ j, (comL l m).length = j + 1 := ⟨(comL l m).length - 1, by omega⟩
      have hV : pickV l m = (comL l m).getD j 0 := by unfold pickV; rw [hj]; rfl
      have E1 := Lib.hid hV
      have hdl : (((comL l m).length : Int) == 0) = false := by rw [beq_eq_false_iff_ne]; omega
      have hx1 : ((comL l m).length : Int) - 1 = (j : Int) := by omega
      have hlt : (j : Int) < ((comL l m).length : Int) := by omega
      have hltn : j < (comL l m).length := by omega
      have hl3 := comL_len l m
      clear hL hE hj hV
      go_enter Try.func38, Try.ntmps38
      go_wp2_with (go_at_call 36; (with_reducible refine (common_any _ _ _ _ _ _ _ hr hs hl hm).mono ?_); rintro e w' ⟨v, rfl, ho, hb⟩; obtain ⟨vA, vc, rfl, _, _⟩ := own_slice ho; have hrd := RdI.of_own ho; have HO := Lib.hid ho; clear ho; obtain ⟨ad, rfl, hcell⟩ := hrd.at_ hltn; rw [← E1.out] at hcell)
      go_ret2
      exact ⟨by rw [E2.out] <;> rfl, hb⟩
  · have hd : (comE l m != 0) = true := by simpa using hE
    have E1 := Lib.hid (pickV_zero (a := l) (b := m) (by unfold pickE; rw [if_pos hE]; exact hE))
    have E2 := Lib.hid (show pickE l m = comE l m by unfold pickE; rw [if_pos hE])
    clear hE
    go_enter Try.func38, Try.ntmps38
    go_wp2_with (go_at_call 36; (with_reducible refine (common_any _ _ _ _ _ _ _ hr hs hl hm).mono ?_); rintro e w' ⟨v, rfl, ho, hb⟩; obtain ⟨vA, vc, rfl, _, _⟩ := own_slice ho; have hrd := RdI.of_own ho; have HO := Lib.hid ho; clear ho)
    go_ret2
    exact ⟨by rw [E1.out, E2.out] <;> rfl, hb⟩


set_option maxHeartbeats 4000000 in
theorem refPick_any (A B : Option Addr) (c d : Nat) (l m : List Int) (w : World) (hr : RdI w .i64 A l) (hs : RdI w .i64 B m) (hl : l.length ≤ 9223372036854775807) (hm : m.length ≤ 9223372036854775807) :
    Calls Try.prog 39 #[.slice A l.length c, .slice B m.length d] w fun e w' => e = .returned (.tuple #[.int .i64 (pickV l m), .int .i64 (pickE l m)]) ∧ Below w.heap.size w w' := by
  by_cases hE : comE l m = 0
  · have hd : (comE l m != 0) = false := by simpa using hE
    by_cases hL : comL l m = []
    · have E1 := Lib.hid (pickV_nil hL)
      have E2 := Lib.hid (pickE_nil hE hL)
      have hlen : ((comL l m).length : Int) = 0 := by rw [hL]; rfl
      have hdl : (((comL l m).length : Int) == 0) = true := by rw [hlen]; rfl
      clear hL hE hlen
      go_enter Try.func39, Try.ntmps39
      go_wp2_with (go_at_call 37; (with_reducible refine (refCommon_any _ _ _ _ _ _ _ hr hs hl hm).mono ?_); rintro e w' ⟨v, rfl, ho, hb⟩; obtain ⟨vA, vc, rfl, _, _⟩ := own_slice ho; have hrd := RdI.of_own ho; have HO := Lib.hid ho; clear ho)
      go_ret2
      exact ⟨by rw [E1.out, E2.out] <;> rfl, hb⟩
    · have E2 := Lib.hid (pickE_ok hE hL)
      have hpos := List.length_pos_iff.mpr hL
      obtain ⟨j, hj⟩ : ∃ j, (comL l m).length = j + 1 := ⟨(comL l m).length - 1, by omega⟩
      have hV : pickV l m = (comL l m).getD j 0 := by unfold pickV; rw [hj]; rfl
      have E1 := Lib.hid hV
      have hdl : (((comL l m).length : Int) == 0) = false := by rw [beq_eq_false_iff_ne]; omega
      have hx1 : ((comL l m).length : Int) - 1 = (j : Int) := by omega
      have hlt : (j : Int) < ((comL l m).length : Int) := by omega
      have hltn : j < (comL l m).length := by omega
      have hl3 := comL_len l m
      clear hL hE hj hV
      go_enter Try.func39, Try.ntmps39
      go_wp2_with (go_at_call 37; (with_reducible refine (refCommon_any _ _ _ _ _ _ _ hr hs hl hm).mono ?_); rintro e w' ⟨v, rfl, ho, hb⟩; obtain ⟨vA, vc, rfl, _, _⟩ := own_slice ho; have hrd := RdI.of_own ho; have HO := Lib.hid ho; clear ho; obtain ⟨ad, rfl, hcell⟩ := hrd.at_ hltn; rw [← E1.out] at hcell)
      go_ret2
      exact ⟨by rw [E2.out] <;> rfl, hb⟩
  · have hd : (comE l m != 0) = true := by simpa using hE
    have E1 := Lib.hid (pickV_zero (a := l) (b := m) (by unfold pickE; rw [if_pos hE]; exact hE))
    have E2 := Lib.hid (show pickE l m = comE l m by unfold pickE; rw [if_pos hE])
    clear hE
    go_enter Try.func39, Try.ntmps39
    go_wp2_with (go_at_call 37; (with_reducible refine (refCommon_any _ _ _ _ _ _ _ hr hs hl hm).mono ?_); rintro e w' ⟨v, rfl, ho, hb⟩; obtain ⟨vA, vc, rfl, _, _⟩ := own_slice ho; have hrd := RdI.of_own ho; have HO := Lib.hid ho; clear ho)
    go_ret2
    exact ⟨by rw [E1.out, E2.out] <;> rfl, hb⟩


set_option maxHeartbeats 4000000 in
set_option maxRecDepth 100000 in
theorem for_any (a0 a1 a2 a3 a4 a5 a6 a7 a8 a9 a10 : Int) (A B : Option Addr) (c d : Nat) (l m : List Int) (w : World) (hr : RdI w .i64 A l) (hs : RdI w .i64 B m) (hl : l.length ≤ 9223372036854775807) (hm : m.length ≤ 9223372036854775807) :
    Calls Try.prog 40 #[.agg #[.int .i64 a0, .int .i64 a1, .int .i64 a2, .int .i64 a3, .int .i64 a4, .int .i64 a5, .int .i64 a6, .int .i64 a7, .int .i64 a8, .int .i64 a9, .int .i64 a10], .slice A l.length c, .slice B m.length d] w fun e w' => e = .returned (.tuple #[.int .i64 (forV (tkB a0 a1 a2 a3 a4 a5 a6 a7 a8 a9 a10) a5 a6 l m), .int .i64 (forE (tkB a0 a1 a2 a3 a4 a5 a6 a7 a8 a9 a10) a5 a6 l m)]) ∧ Below w.heap.size w w' := by
  cases hT : tkB a0 a1 a2 a3 a4 a5 a6 a7 a8 a9 a10 with
  | false =>
    have E1 := Lib.hid (show forV false a5 a6 l m = 0 by simp [forV])
    have E2 := Lib.hid (show forE false a5 a6 l m = 1 by simp [forE])
    go_enter Try.func40, Try.ntmps40
    go_wp2_with (go_at_call 54; (with_reducible refine (tk_any _ _ _ _ _ _ _ _ _ _ _ _).mono ?_); rintro e w' ⟨rfl, hb⟩; obtain ⟨hc, hf⟩ := bcell hb; have hz : w.heap.size < w'.heap.size := (by have := hb.size; (try simp at this); omega); have hr2 := (hr.below (bel1 _ _)).below hb; have hs2 := (hs.below (bel1 _ _)).below hb)
    go_ret2
    exact ⟨by rw [E1.out, E2.out] <;> rfl, (by repeat (first | (with_reducible exact bR _) | (with_reducible refine bT ?_ (by assumption)) | (with_reducible apply bA) | (with_reducible apply bD) | (with_reducible apply bN) | (with_reducible refine bS ?_ (by first | omega | (simp; done) | (simp; omega)))))⟩
  | true =>
    by_cases hE : pickE l m = 0
    · have hd : (pickE l m != 0) = false := by simpa using hE
      have hbar : barB a0 a1 a2 a3 a4 a5 a6 a7 a8 a9 a10 (pickV l m) = decide (verN a5 a6 ≤ pickV l m) := by simp [barB, hT, pickV_le]
      by_cases hV : verN a5 a6 ≤ pickV l m
      · have hb2 : barB a0 a1 a2 a3 a4 a5 a6 a7 a8 a9 a10 (pickV l m) = true := by rw [hbar]; simpa using hV
        have E1 := Lib.hid (show forV true a5 a6 l m = pickV l m by simp [forV, hE, hV])
        have E2 := Lib.hid (show forE true a5 a6 l m = 0 by simp [forE, hE, hV])
        clear hbar hV hE
        go_enter Try.func40, Try.ntmps40
        go_wp2_with (first | (go_at_call 54; (with_reducible refine (tk_any _ _ _ _ _ _ _ _ _ _ _ _).mono ?_); rintro e w' ⟨rfl, hb⟩; obtain ⟨hc, hf⟩ := bcell hb; have hz : w.heap.size < w'.heap.size := (by have := hb.size; (try simp at this); omega); have hr2 := (hr.below (bel1 _ _)).below hb; have hs2 := (hs.below (bel1 _ _)).below hb) | (go_at_call 38; (with_reducible refine (pick_any _ _ _ _ _ _ _ hr2 hs2 hl hm).mono ?_); rintro e w' ⟨rfl, hb⟩; obtain ⟨hc, hf⟩ := bcell hb; have hz : w.heap.size < w'.heap.size := (by have := hb.size; (try simp at this); omega)) | (go_at_call 23; (with_reducible refine (bar_any _ _ _ _ _ _ _ _ _ _ _ _ _).mono ?_); rintro e w' ⟨rfl, hb⟩))
        go_ret2
        exact ⟨by rw [E1.out, E2.out] <;> rfl, (by repeat (first | (with_reducible exact bR _) | (with_reducible refine bT ?_ (by assumption)) | (with_reducible apply bA) | (with_reducible apply bD) | (with_reducible apply bN) | (with_reducible refine bS ?_ (by first | omega | (simp; done) | (simp; omega)))))⟩
      · have hb2 : barB a0 a1 a2 a3 a4 a5 a6 a7 a8 a9 a10 (pickV l m) = false := by rw [hbar]; simpa using hV
        have E1 := Lib.hid (show forV true a5 a6 l m = 0 by simp [forV, hV])
        have E2 := Lib.hid (show forE true a5 a6 l m = 18 by simp [forE, hE, hV])
        clear hbar hV hE
        go_enter Try.func40, Try.ntmps40
        go_wp2_with (first | (go_at_call 54; (with_reducible refine (tk_any _ _ _ _ _ _ _ _ _ _ _ _).mono ?_); rintro e w' ⟨rfl, hb⟩; obtain ⟨hc, hf⟩ := bcell hb; have hz : w.heap.size < w'.heap.size := (by have := hb.size; (try simp at this); omega); have hr2 := (hr.below (bel1 _ _)).below hb; have hs2 := (hs.below (bel1 _ _)).below hb) | (go_at_call 38; (with_reducible refine (pick_any _ _ _ _ _ _ _ hr2 hs2 hl hm).mono ?_); rintro e w' ⟨rfl, hb⟩; obtain ⟨hc, hf⟩ := bcell hb; have hz : w.heap.size < w'.heap.size := (by have := hb.size; (try simp at this); omega)) | (go_at_call 23; (with_reducible refine (bar_any _ _ _ _ _ _ _ _ _ _ _ _ _).mono ?_); rintro e w' ⟨rfl, hb⟩))
        go_ret2
        exact ⟨by rw [E1.out, E2.out] <;> rfl, (by repeat (first | (with_reducible exact bR _) | (with_reducible refine bT ?_ (by assumption)) | (with_reducible apply bA) | (with_reducible apply bD) | (with_reducible apply bN) | (with_reducible refine bS ?_ (by first | omega | (simp; done) | (simp; omega)))))⟩
    · have hd : (pickE l m != 0) = true := by simpa using hE
      have E1 := Lib.hid (show forV true a5 a6 l m = 0 by simp [forV, hE])
      have E2 := Lib.hid (show forE true a5 a6 l m = pickE l m by simp [forE, hE])
      clear hE
      go_enter Try.func40, Try.ntmps40
      go_wp2_with (first | (go_at_call 54; (with_reducible refine (tk_any _ _ _ _ _ _ _ _ _ _ _ _).mono ?_); rintro e w' ⟨rfl, hb⟩; obtain ⟨hc, hf⟩ := bcell hb; have hz : w.heap.size < w'.heap.size := (by have := hb.size; (try simp at this); omega); have hr2 := (hr.below (bel1 _ _)).below hb; have hs2 := (hs.below (bel1 _ _)).below hb) | (go_at_call 38; (with_reducible refine (pick_any _ _ _ _ _ _ _ hr2 hs2 hl hm).mono ?_); rintro e w' ⟨rfl, hb⟩; obtain ⟨hc, hf⟩ := bcell hb; have hz : w.heap.size < w'.heap.size := (by have := hb.size; (try simp at this); omega)))
      go_ret2
      exact ⟨by rw [E1.out, E2.out] <;> rfl, (by repeat (first | (with_reducible exact bR _) | (with_reducible refine bT ?_ (by assumption)) | (with_reducible apply bA) | (with_reducible apply bD) | (with_reducible apply bN) | (with_reducible refine bS ?_ (by first | omega | (simp; done) | (simp; omega)))))⟩


set_option maxHeartbeats 4000000 in
set_option maxRecDepth 100000 in
theorem refFor_any (a0 a1 a2 a3 a4 a5 a6 a7 a8 a9 a10 : Int) (A B : Option Addr) (c d : Nat) (l m : List Int) (w : World) (hr : RdI w .i64 A l) (hs : RdI w .i64 B m) (hl : l.length ≤ 9223372036854775807) (hm : m.length ≤ 9223372036854775807) :
    Calls Try.prog 41 #[.agg #[.int .i64 a0, .int .i64 a1, .int .i64 a2, .int .i64 a3, .int .i64 a4, .int .i64 a5, .int .i64 a6, .int .i64 a7, .int .i64 a8, .int .i64 a9, .int .i64 a10], .slice A l.length c, .slice B m.length d] w fun e w' => e = .returned (.tuple #[.int .i64 (forV (tkB a0 a1 a2 a3 a4 a5 a6 a7 a8 a9 a10) a5 a6 l m), .int .i64 (forE (tkB a0 a1 a2 a3 a4 a5 a6 a7 a8 a9 a10) a5 a6 l m)]) ∧ Below w.heap.size w w' := by
  cases hT : tkB a0 a1 a2 a3 a4 a5 a6 a7 a8 a9 a10 with
  | false =>
    have E1 := Lib.hid (show forV false a5 a6 l m = 0 by simp [forV])
    have E2 := Lib.hid (show forE false a5 a6 l m = 1 by simp [forE])
    go_enter Try.func41, Try.ntmps41
    go_wp2_with (go_at_call 57; (with_reducible refine (refIs_any _ _ _ _ _ _ _ _ _ _ _ _).mono ?_); rintro e w' ⟨rfl, hb⟩; obtain ⟨hc, hf⟩ := bcell hb; have hz : w.heap.size < w'.heap.size := (by have := hb.size; (try simp at this); omega); have hr2 := (hr.below (bel1 _ _)).below hb; have hs2 := (hs.below (bel1 _ _)).below hb)
    go_ret2
    exact ⟨by rw [E1.out, E2.out] <;> rfl, (by repeat (first | (with_reducible exact bR _) | (with_reducible refine bT ?_ (by assumption)) | (with_reducible apply bA) | (with_reducible apply bD) | (with_reducible apply bN) | (with_reducible refine bS ?_ (by first | omega | (simp; done) | (simp; omega)))))⟩
  | true =>
    by_cases hE : pickE l m = 0
    · have hd : (pickE l m != 0) = false := by simpa using hE
      have hbar : barB a0 a1 a2 a3 a4 a5 a6 a7 a8 a9 a10 (pickV l m) = decide (verN a5 a6 ≤ pickV l m) := by simp [barB, hT, pickV_le]
      by_cases hV : verN a5 a6 ≤ pickV l m
      · have hb2 : barB a0 a1 a2 a3 a4 a5 a6 a7 a8 a9 a10 (pickV l m) = true := by rw [hbar]; simpa using hV
        have E1 := Lib.hid (show forV true a5 a6 l m = pickV l m by simp [forV, hE, hV])
        have E2 := Lib.hid (show forE true a5 a6 l m = 0 by simp [forE, hE, hV])
        clear hbar hV hE
        go_enter Try.func41, Try.ntmps41
        go_wp2_with (first | (go_at_call 57; (with_reducible refine (refIs_any _ _ _ _ _ _ _ _ _ _ _ _).mono ?_); rintro e w' ⟨rfl, hb⟩; obtain ⟨hc, hf⟩ := bcell hb; have hz : w.heap.size < w'.heap.size := (by have := hb.size; (try simp at this); omega); have hr2 := (hr.below (bel1 _ _)).below hb; have hs2 := (hs.below (bel1 _ _)).below hb) | (go_at_call 39; (with_reducible refine (refPick_any _ _ _ _ _ _ _ hr2 hs2 hl hm).mono ?_); rintro e w' ⟨rfl, hb⟩; obtain ⟨hc, hf⟩ := bcell hb; have hz : w.heap.size < w'.heap.size := (by have := hb.size; (try simp at this); omega)) | (go_at_call 24; (with_reducible refine (refBar_any _ _ _ _ _ _ _ _ _ _ _ _ _).mono ?_); rintro e w' ⟨rfl, hb⟩))
        go_ret2
        exact ⟨by rw [E1.out, E2.out] <;> rfl, (by repeat (first | (with_reducible exact bR _) | (with_reducible refine bT ?_ (by assumption)) | (with_reducible apply bA) | (with_reducible apply bD) | (with_reducible apply bN) | (with_reducible refine bS ?_ (by first | omega | (simp; done) | (simp; omega)))))⟩
      · have hb2 : barB a0 a1 a2 a3 a4 a5 a6 a7 a8 a9 a10 (pickV l m) = false := by rw [hbar]; simpa using hV
        have E1 := Lib.hid (show forV true a5 a6 l m = 0 by simp [forV, hV])
        have E2 := Lib.hid (show forE true a5 a6 l m = 18 by simp [forE, hE, hV])
        clear hbar hV hE
        go_enter Try.func41, Try.ntmps41
        go_wp2_with (first | (go_at_call 57; (with_reducible refine (refIs_any _ _ _ _ _ _ _ _ _ _ _ _).mono ?_); rintro e w' ⟨rfl, hb⟩; obtain ⟨hc, hf⟩ := bcell hb; have hz : w.heap.size < w'.heap.size := (by have := hb.size; (try simp at this); omega); have hr2 := (hr.below (bel1 _ _)).below hb; have hs2 := (hs.below (bel1 _ _)).below hb) | (go_at_call 39; (with_reducible refine (refPick_any _ _ _ _ _ _ _ hr2 hs2 hl hm).mono ?_); rintro e w' ⟨rfl, hb⟩; obtain ⟨hc, hf⟩ := bcell hb; have hz : w.heap.size < w'.heap.size := (by have := hb.size; (try simp at this); omega)) | (go_at_call 24; (with_reducible refine (refBar_any _ _ _ _ _ _ _ _ _ _ _ _ _).mono ?_); rintro e w' ⟨rfl, hb⟩))
        go_ret2
        exact ⟨by rw [E1.out, E2.out] <;> rfl, (by repeat (first | (with_reducible exact bR _) | (with_reducible refine bT ?_ (by assumption)) | (with_reducible apply bA) | (with_reducible apply bD) | (with_reducible apply bN) | (with_reducible refine bS ?_ (by first | omega | (simp; done) | (simp; omega)))))⟩
    · have hd : (pickE l m != 0) = true := by simpa using hE
      have E1 := Lib.hid (show forV true a5 a6 l m = 0 by simp [forV, hE])
      have E2 := Lib.hid (show forE true a5 a6 l m = pickE l m by simp [forE, hE])
      clear hE
      go_enter Try.func41, Try.ntmps41
      go_wp2_with (first | (go_at_call 57; (with_reducible refine (refIs_any _ _ _ _ _ _ _ _ _ _ _ _).mono ?_); rintro e w' ⟨rfl, hb⟩; obtain ⟨hc, hf⟩ := bcell hb; have hz : w.heap.size < w'.heap.size := (by have := hb.size; (try simp at this); omega); have hr2 := (hr.below (bel1 _ _)).below hb; have hs2 := (hs.below (bel1 _ _)).below hb) | (go_at_call 39; (with_reducible refine (refPick_any _ _ _ _ _ _ _ hr2 hs2 hl hm).mono ?_); rintro e w' ⟨rfl, hb⟩; obtain ⟨hc, hf⟩ := bcell hb; have hz : w.heap.size < w'.heap.size := (by have := hb.size; (try simp at this); omega)))
      go_ret2
      exact ⟨by rw [E1.out, E2.out] <;> rfl, (by repeat (first | (with_reducible exact bR _) | (with_reducible refine bT ?_ (by assumption)) | (with_reducible apply bA) | (with_reducible apply bD) | (with_reducible apply bN) | (with_reducible refine bS ?_ (by first | omega | (simp; done) | (simp; omega)))))⟩

end Go.Proofs.Ythejnlelegcgfaa
