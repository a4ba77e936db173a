/- Layer 22's laws, walked: NegoPicks, NegoBoth and NegoMore come to true, for every ticket and all lists. No condition. -/
import Derived.Test.YthejnlelegcgfaaNegoFor
namespace Go.Proofs.Ythejnlelegcgfaa
open Go.RowKit
set_option linter.unusedVariables false
set_option linter.unusedSimpArgs false

set_option maxHeartbeats 8000000 in
set_option maxRecDepth 100000 in
theorem picked_any (w : World) : Calls Try.prog 42 #[] w fun e w' => e = .returned (.bool true) ∧ Below w.heap.size w w' := by
  have p1 : pickV [1, 2] [2, 3] = 2 := by decide
  have p2 : pickE [1, 2] [2, 3] = 0 := by decide
  have p3 : pickE [1] [2, 3] = 12 := by decide
  have p4 : pickE [2, 1] [2, 3] = 1 := by decide
  have p5 : comE [1, 2, 3] [1, 3] = 0 := by decide
  have p6 : forE (tkB 42 1 3 20 2 0 1 10 1 1 0) 0 1 [1, 2] [2] = 18 := by decide
  have p7 : forE (tkB 42 1 3 20 2 0 1 10 1 1 0) 0 1 [1, 3] [2, 3] = 0 := by decide
  have p8 : forV (tkB 42 1 3 20 2 0 1 10 1 1 0) 0 1 [1, 3] [2, 3] = 3 := by decide
  have p9 : forE (tkB 0 0 0 0 0 0 0 0 0 0 0) 0 0 [1, 3] [] = 1 := by decide
  have p10 : isB [] = true := by decide
  have p11 : isB [4] = false := by decide
  go_enter Try.func42, Try.ntmps42
  go_wp2_with fail
  refine (pick_any (some ⟨w.heap.size, 0, none⟩) (some ⟨w.heap.size + 1, 0, none⟩) 2 2 [1, 2] [2, 3] _ ?_ ?_ (by decide) (by decide)).mono ?_
  · exact RdI.lit2a w .i64 [1, 2] _ _
  · exact RdI.lit2b w .i64 [2, 3] _ _
  rintro e w1 ⟨rfl, hb1⟩
  have HB1 := Lib.hid (bT (bA (bA (bR w) _) _) hb1)
  clear hb1
  go_wp2_with fail
  refine (pick_any (some ⟨w1.heap.size, 0, none⟩) (some ⟨w1.heap.size + 1, 0, none⟩) 1 2 [1] [2, 3] _ ?_ ?_ (by decide) (by decide)).mono ?_
  · exact RdI.lit2a w1 .i64 [1] _ _
  · exact RdI.lit2b w1 .i64 [2, 3] _ _
  rintro e w2 ⟨rfl, hb2⟩
  have HB2 := Lib.hid (bT (bA (bA HB1.out _) _) hb2)
  clear hb2
  go_wp2_with fail
  refine (pick_any (some ⟨w2.heap.size, 0, none⟩) (some ⟨w2.heap.size + 1, 0, none⟩) 2 2 [2, 1] [2, 3] _ ?_ ?_ (by decide) (by decide)).mono ?_
  · exact RdI.lit2a w2 .i64 [2, 1] _ _
  · exact RdI.lit2b w2 .i64 [2, 3] _ _
  rintro e w3 ⟨rfl, hb3⟩
  have HB3 := Lib.hid (bT (bA (bA HB2.out _) _) hb3)
  clear hb3
  go_wp2_with fail
  refine (common_any (some ⟨w3.heap.size, 0, none⟩) (some ⟨w3.heap.size + 1, 0, none⟩) 3 2 [1, 2, 3] [1, 3] _ ?_ ?_ (by decide) (by decide)).mono ?_
  · exact RdI.lit2a w3 .i64 [1, 2, 3] _ _
  · exact RdI.lit2b w3 .i64 [1, 3] _ _
  rintro e w4 ⟨v, rfl, ho, hb4⟩
  have HB4 := Lib.hid (bT (bA (bA HB3.out _) _) hb4)
  obtain ⟨vA, vc, rfl, _, _⟩ := own_slice ho
  have hrd := RdI.of_own ho
  rw [show comL [1, 2, 3] [1, 3] = [1, 3] by decide] at hrd
  have HR := Lib.hid hrd
  clear ho hrd
  go_wp2_with fail
  refine (for_any 42 1 3 20 2 0 1 10 1 1 0 (some ⟨w4.heap.size + 1, 0, none⟩) (some ⟨w4.heap.size + 1 + 1, 0, none⟩) 2 1 [1, 2] [2] _ ?_ ?_ (by decide) (by decide)).mono ?_
  · exact RdI.lit2a' (l := [1, 2]) (by simp)
  · exact RdI.lit2b' (l := [2]) (by simp)
  rintro e w5 ⟨rfl, hb5⟩
  obtain ⟨hc5, hf5⟩ := bcell hb5
  have HB5 := Lib.hid (bT (bA (bA (bA HB4.out _) _) _) hb5)
  have hz5 : w4.heap.size < w5.heap.size := by have := hb5.size; simp at this; omega
  have h45 : Below w4.heap.size w4 w5 := (by repeat (first | (with_reducible exact bR _) | (with_reducible refine bT ?_ (by assumption)) | (with_reducible apply bA) | (with_reducible apply bD) | (with_reducible apply bN) | (with_reducible refine bS ?_ (by first | omega | (simp; done) | (simp; omega)))))
  go_wp2_with fail
  refine (for_any 42 1 3 20 2 0 1 10 1 1 0 (some ⟨w5.heap.size, 0, none⟩) (some ⟨w5.heap.size + 1, 0, none⟩) 2 2 [1, 3] [2, 3] _ ?_ ?_ (by decide) (by decide)).mono ?_
  · exact RdI.lit2a' (l := [1, 3]) rfl
  · exact RdI.lit2b' (l := [2, 3]) rfl
  rintro e w6 ⟨rfl, hb6⟩
  have HB6 := Lib.hid (bT (bA (bA HB5.out _) _) hb6)
  have h46 : Below w4.heap.size w4 w6 := bT h45 (by clear hb5 h45; repeat (first | (with_reducible exact bR _) | (with_reducible refine bT ?_ (by assumption)) | (with_reducible apply bA) | (with_reducible apply bD) | (with_reducible apply bN) | (with_reducible refine bS ?_ (by first | omega | (simp; done) | (simp; omega)))))
  go_wp2_with fail
  refine (for_any 0 0 0 0 0 0 0 0 0 0 0 (some ⟨w6.heap.size, 0, none⟩) none 2 0 [1, 3] [] _ ?_ ?_ (by decide) (by decide)).mono ?_
  · exact RdI.lit' (l := [1, 3]) rfl
  · exact RdI.nil _ _ _
  rintro e w7 ⟨rfl, hb7⟩
  have HB7 := Lib.hid (bT (bA HB6.out _) hb7)
  have h47 : Below w4.heap.size w4 w7 := bT h46 (by clear hb5 h45 hb6 h46; repeat (first | (with_reducible exact bR _) | (with_reducible refine bT ?_ (by assumption)) | (with_reducible apply bA) | (with_reducible apply bD) | (with_reducible apply bN) | (with_reducible refine bS ?_ (by first | omega | (simp; done) | (simp; omega)))))
  have hr7 := HR.out.below h47
  go_wp2_with fail
  refine (same07_any _ (some ⟨w7.heap.size, 0, none⟩) _ 2 [1, 3] [1, 3] _ ?_ ?_ (by decide) (by decide)).mono ?_
  · exact hr7.below (bel1 _ _)
  · exact RdI.lit' (l := [1, 3]) rfl
  rintro e w8 ⟨rfl, n8, rfl⟩
  clear hr7
  go_wp2_with fail
  refine (negoIs_any none 0 [] _ (RdI.nil _ _ _) (by decide)).mono ?_
  rintro e w9 ⟨rfl, n9, rfl⟩
  go_wp2_with fail
  refine (negoIs_any (some ⟨w7.heap.size + 1, 0, none⟩) 1 [4] _ (RdI.lit' (l := [4]) (by simp)) (by decide)).mono ?_
  rintro e w9 ⟨rfl, n10, rfl⟩
  go_wp2
  go_ret
  have hb := HB7.out
  clear hb7 h47 hb6 h46 hb5 h45 hb4
  exact ⟨by simp, by repeat (first | (with_reducible exact bR _) | (with_reducible refine bT ?_ (by assumption)) | (with_reducible apply bA) | (with_reducible apply bD) | (with_reducible apply bN) | (with_reducible refine bS ?_ (by first | omega | (simp; done) | (simp; omega))))⟩

set_option maxHeartbeats 16000000 in
set_option maxRecDepth 100000 in
theorem negoPicks_any (a0 a1 a2 a3 a4 a5 a6 a7 a8 a9 a10 : Int) (A B : Option Addr) (c d : Nat) (l m : List Int) (w : World) (hr : RdI w .i64 A l) (hs : RdI w .i64 B m) (hl : l.length ≤ 9223372036854775807) (hm : m.length ≤ 9223372036854775807) :
    Calls Try.prog 10 #[.agg #[.int .i64 a0, .int .i64 a1, .int .i64 a2, .int .i64 a3, .int .i64 a4, .int .i64 a5, .int .i64 a6, .int .i64 a7, .int .i64 a8, .int .i64 a9, .int .i64 a10], .slice A l.length c, .slice B m.length d] w fun e w' => e = .returned (.bool true) ∧ Below w.heap.size w w' := by
  by_cases h1 : 100 < l.length
  · go_enter Try.func10, Try.ntmps10
    go_wp2
    go_ret
    exact ⟨rfl, (by repeat (first | (with_reducible exact bR _) | (with_reducible refine bT ?_ (by assumption)) | (with_reducible apply bA) | (with_reducible apply bD) | (with_reducible apply bN) | (with_reducible refine bS ?_ (by first | omega | (simp; done) | (simp; omega)))))⟩
  by_cases h2 : 100 < m.length
  · go_enter Try.func10, Try.ntmps10
    go_wp2
    go_ret
    exact ⟨rfl, (by repeat (first | (with_reducible exact bR _) | (with_reducible refine bT ?_ (by assumption)) | (with_reducible apply bA) | (with_reducible apply bD) | (with_reducible apply bN) | (with_reducible refine bS ?_ (by first | omega | (simp; done) | (simp; omega)))))⟩
  have HB0 := Lib.hid (bel1 w (.cells #[.int .i64 a0, .int .i64 a1, .int .i64 a2, .int .i64 a3, .int .i64 a4, .int .i64 a5, .int .i64 a6, .int .i64 a7, .int .i64 a8, .int .i64 a9, .int .i64 a10] 23))
  replace hr := hr.below HB0.out
  replace hs := hs.below HB0.out
  go_enter Try.func10, Try.ntmps10
  go_wp2_with fail
  refine (common_any A B c d l m _ hr hs hl hm).mono ?_
  rintro e w1 ⟨u, rfl, uo, hb1⟩
  obtain ⟨hc1, hf1⟩ := bcell hb1
  have hz1 : w.heap.size < w1.heap.size := by have := hb1.size; (try simp at this); omega
  have HB1 := Lib.hid (bT HB0.out hb1)
  replace hr := hr.below hb1
  replace hs := hs.below hb1
  obtain ⟨uA, uc, rfl, _, _⟩ := own_slice uo
  have ur := RdI.of_own uo
  clear uo
  clear hb1
  go_wp2_with fail
  refine (refCommon_any A B c d l m _ hr hs hl hm).mono ?_
  rintro e w2 ⟨v, rfl, vo, hb2⟩
  obtain ⟨hc2, hf2⟩ := bcell hb2
  have hz2 : w.heap.size < w2.heap.size := by have := hb2.size; (try simp at this); omega
  have HB2 := Lib.hid (bT HB1.out hb2)
  replace hr := hr.below hb2
  replace hs := hs.below hb2
  replace ur := ur.below hb2
  obtain ⟨vA, vc, rfl, _, _⟩ := own_slice vo
  have vr := RdI.of_own vo
  clear vo
  clear hb2
  go_wp2_with fail
  refine (pick_any A B c d l m _ hr hs hl hm).mono ?_
  rintro e w3 ⟨rfl, hb3⟩
  obtain ⟨hc3, hf3⟩ := bcell hb3
  have hz3 : w.heap.size < w3.heap.size := by have := hb3.size; (try simp at this); omega
  have HB3 := Lib.hid (bT HB2.out hb3)
  replace hr := hr.below hb3
  replace hs := hs.below hb3
  replace ur := ur.below hb3
  replace vr := vr.below hb3
  clear hb3
  go_wp2_with fail
  refine (refPick_any A B c d l m _ hr hs hl hm).mono ?_
  rintro e w4 ⟨rfl, hb4⟩
  obtain ⟨hc4, hf4⟩ := bcell hb4
  have hz4 : w.heap.size < w4.heap.size := by have := hb4.size; (try simp at this); omega
  have HB4 := Lib.hid (bT HB3.out hb4)
  replace hr := hr.below hb4
  replace hs := hs.below hb4
  replace ur := ur.below hb4
  replace vr := vr.below hb4
  clear hb4
  go_wp2_with fail
  refine (for_any a0 a1 a2 a3 a4 a5 a6 a7 a8 a9 a10 A B c d l m _ hr hs hl hm).mono ?_
  rintro e w5 ⟨rfl, hb5⟩
  obtain ⟨hc5, hf5⟩ := bcell hb5
  have hz5 : w.heap.size < w5.heap.size := by have := hb5.size; (try simp at this); omega
  have HB5 := Lib.hid (bT HB4.out hb5)
  replace hr := hr.below hb5
  replace hs := hs.below hb5
  replace ur := ur.below hb5
  replace vr := vr.below hb5
  clear hb5
  go_wp2_with fail
  refine (refFor_any a0 a1 a2 a3 a4 a5 a6 a7 a8 a9 a10 A B c d l m _ hr hs hl hm).mono ?_
  rintro e w6 ⟨rfl, hb6⟩
  obtain ⟨hc6, hf6⟩ := bcell hb6
  have hz6 : w.heap.size < w6.heap.size := by have := hb6.size; (try simp at this); omega
  have HB6 := Lib.hid (bT HB5.out hb6)
  replace hr := hr.below hb6
  replace hs := hs.below hb6
  replace ur := ur.below hb6
  replace vr := vr.below hb6
  clear hb6
  go_wp2_with fail
  refine (picked_any _).mono ?_
  rintro e w7 ⟨rfl, hb7⟩
  have HB7 := Lib.hid (bT HB6.out hb7)
  replace hr := hr.below hb7
  replace hs := hs.below hb7
  replace ur := ur.below hb7
  replace vr := vr.below hb7
  clear hb7
  go_wp2_with fail
  have hcl := comL_len l m
  refine (same07_any _ _ _ _ (comL l m) (comL l m) _ ur vr (by omega) (by omega)).mono ?_
  rintro e w8 ⟨rfl, n8, rfl⟩
  have hself : (comL l m == comL l m) = true := by simp
  go_wp2_with fail
  refine (negoIs_any A c l _ (by exact hr) hl).mono ?_
  rintro e w9 ⟨rfl, n9, rfl⟩
  go_wp2_with fail
  refine (ref22Is_any A c l _ (by exact hr) hl).mono ?_
  rintro e w10 ⟨rfl, n10, rfl⟩
  go_wp2
  go_ret
  exact ⟨by simp, by have h := HB7.out; repeat (first | (with_reducible exact bR _) | (with_reducible refine bT ?_ (by assumption)) | (with_reducible apply bA) | (with_reducible apply bD) | (with_reducible apply bN) | (with_reducible refine bS ?_ (by first | omega | (simp; done) | (simp; omega))))⟩

theorem for_ok {T : Bool} {a5 a6 : Int} {l m : List Int} (h : forE T a5 a6 l m = 0) : T = true ∧ pickE l m = 0 ∧ forV T a5 a6 l m = pickV l m ∧ verN a5 a6 ≤ pickV l m := by
  unfold forE at h
  split at h
  · omega
  · rename_i hT
    split at h
    · omega
    · rename_i hE
      split at h
      · rename_i hV
        have hT' : T = true := by simpa using hT
        have hE' : pickE l m = 0 := by omega
        exact ⟨hT', hE', by simp [forV, hT', hE', hV], hV⟩
      · omega
theorem for_no {T : Bool} {a5 a6 : Int} {l m : List Int} (h : forE T a5 a6 l m ≠ 0) : forV T a5 a6 l m = 0 := by
  unfold forV
  split
  · rename_i k
    exact absurd (by unfold forE; rw [if_neg (by simp [k.1]), if_neg (by simp [k.2.1]), if_pos k.2.2]) h
  · rfl

set_option maxHeartbeats 16000000 in
set_option maxRecDepth 100000 in
theorem negoBoth_any (a0 a1 a2 a3 a4 a5 a6 a7 a8 a9 a10 : Int) (A B : Option Addr) (c d : Nat) (l m : List Int) (w : World) (hr : RdI w .i64 A l) (hs : RdI w .i64 B m) (hl : l.length ≤ 9223372036854775807) (hm : m.length ≤ 9223372036854775807) :
    Calls Try.prog 11 #[.agg #[.int .i64 a0, .int .i64 a1, .int .i64 a2, .int .i64 a3, .int .i64 a4, .int .i64 a5, .int .i64 a6, .int .i64 a7, .int .i64 a8, .int .i64 a9, .int .i64 a10], .slice A l.length c, .slice B m.length d] w fun e w' => e = .returned (.bool true) ∧ Below w.heap.size w w' := by
  by_cases h1 : 100 < l.length
  · go_enter Try.func11, Try.ntmps11
    go_wp2
    go_ret
    exact ⟨rfl, (by repeat (first | (with_reducible exact bR _) | (with_reducible refine bT ?_ (by assumption)) | (with_reducible apply bA) | (with_reducible apply bD) | (with_reducible apply bN) | (with_reducible refine bS ?_ (by first | omega | (simp; done) | (simp; omega)))))⟩
  by_cases h2 : 100 < m.length
  · go_enter Try.func11, Try.ntmps11
    go_wp2
    go_ret
    exact ⟨rfl, (by repeat (first | (with_reducible exact bR _) | (with_reducible refine bT ?_ (by assumption)) | (with_reducible apply bA) | (with_reducible apply bD) | (with_reducible apply bN) | (with_reducible refine bS ?_ (by first | omega | (simp; done) | (simp; omega)))))⟩
  have HB0 := Lib.hid (bel1 w (.cells #[.int .i64 a0, .int .i64 a1, .int .i64 a2, .int .i64 a3, .int .i64 a4, .int .i64 a5, .int .i64 a6, .int .i64 a7, .int .i64 a8, .int .i64 a9, .int .i64 a10] 23))
  replace hr := hr.below HB0.out
  replace hs := hs.below HB0.out
  have q1 : comE m l = comE l m := comE_comm m l
  have q3 : forV (tkB a0 a1 a2 a3 a4 a5 a6 a7 a8 a9 a10) a5 a6 m l = forV (tkB a0 a1 a2 a3 a4 a5 a6 a7 a8 a9 a10) a5 a6 l m := by unfold forV; rw [pickE_comm m l, pickV_comm m l]
  have q4 : forE (tkB a0 a1 a2 a3 a4 a5 a6 a7 a8 a9 a10) a5 a6 m l = forE (tkB a0 a1 a2 a3 a4 a5 a6 a7 a8 a9 a10) a5 a6 l m := by unfold forE; rw [pickE_comm m l, pickV_comm m l]
  have hcl := comL_len l m
  have hself : (comL l m == comL l m) = true := by simp
  by_cases hF : forE (tkB a0 a1 a2 a3 a4 a5 a6 a7 a8 a9 a10) a5 a6 l m = 0
  · obtain ⟨hT, hE, hV, hle⟩ := for_ok hF
    obtain ⟨_, _, hne⟩ := pick_ok hE
    have hbar : barB a0 a1 a2 a3 a4 a5 a6 a7 a8 a9 a10 (pickV l m) = true := by simp [barB, hT, pickV_le, hle]
    have his : isB (comL l m) = true := isB_com
    have hpos := List.length_pos_iff.mpr hne
    obtain ⟨j, hj⟩ : ∃ j, (comL l m).length = j + 1 := ⟨(comL l m).length - 1, by omega⟩
    have hPV : pickV l m = (comL l m).getD j 0 := by unfold pickV; rw [hj]; rfl
    have EP := Lib.hid hPV
    have hx1 : ((comL l m).length : Int) - 1 = (j : Int) := by omega
    have hltn : j < (comL l m).length := by omega
    clear hT hle hne hj hPV
    go_enter Try.func11, Try.ntmps11
    go_wp2_with fail
    refine (common_any A B c d l m _ hr hs hl hm).mono ?_
    rintro e w1 ⟨u, rfl, uo, hb1⟩
    obtain ⟨hc1, hf1⟩ := bcell hb1
    have hz1 : w.heap.size < w1.heap.size := by have := hb1.size; (try simp at this); omega
    have HB1 := Lib.hid (bT HB0.out hb1)
    replace hr := hr.below hb1
    replace hs := hs.below hb1
    obtain ⟨uA, uc, rfl, _, _⟩ := own_slice uo
    have ur := RdI.of_own uo
    clear uo
    clear hb1
    go_wp2_with fail
    refine (common_any B A d c m l _ hs hr hm hl).mono ?_
    rintro e w2 ⟨v, rfl, vo, hb2⟩
    obtain ⟨hc2, hf2⟩ := bcell hb2
    have hz2 : w.heap.size < w2.heap.size := by have := hb2.size; (try simp at this); omega
    have HB2 := Lib.hid (bT HB1.out hb2)
    replace hr := hr.below hb2
    replace hs := hs.below hb2
    replace ur := ur.below hb2
    clear hb2
    rw [comL_comm m l] at vo
    obtain ⟨vA, vc, rfl, _, _⟩ := own_slice vo
    have vr := RdI.of_own vo
    clear vo
    go_wp2_with fail
    refine (for_any a0 a1 a2 a3 a4 a5 a6 a7 a8 a9 a10 A B c d l m _ hr hs hl hm).mono ?_
    rintro e w3 ⟨rfl, hb3⟩
    obtain ⟨hc3, hf3⟩ := bcell hb3
    have hz3 : w.heap.size < w3.heap.size := by have := hb3.size; (try simp at this); omega
    have HB3 := Lib.hid (bT HB2.out hb3)
    replace hr := hr.below hb3
    replace hs := hs.below hb3
    replace ur := ur.below hb3
    replace vr := vr.below hb3
    clear hb3
    go_wp2_with fail
    refine (for_any a0 a1 a2 a3 a4 a5 a6 a7 a8 a9 a10 B A d c m l _ hs hr hm hl).mono ?_
    rintro e w4 ⟨rfl, hb4⟩
    obtain ⟨hc4, hf4⟩ := bcell hb4
    have hz4 : w.heap.size < w4.heap.size := by have := hb4.size; (try simp at this); omega
    have HB4 := Lib.hid (bT HB3.out hb4)
    replace hr := hr.below hb4
    replace hs := hs.below hb4
    replace ur := ur.below hb4
    replace vr := vr.below hb4
    clear hb4
    go_wp2_with fail
    refine (same07_any _ _ _ _ (comL l m) (comL l m) _ ur vr (by omega) (by omega)).mono ?_
    rintro e w5 ⟨rfl, n5, rfl⟩
    go_wp2_with fail
    refine (pick_any A B c d l m _ (by exact hr) (by exact hs) hl hm).mono ?_
    rintro e w6 ⟨rfl, hb6⟩
    obtain ⟨hc6, hf6⟩ := bcell hb6
    simp only [World.cell?_drewN, World.frozen?_drewN, World.heap_drewN] at hc6 hf6
    have hz6 : w.heap.size < w6.heap.size := by have := hb6.size; (try simp at this); omega
    have HB6 := Lib.hid (bT (bN HB4.out n5) hb6)
    have ur6 : RdI w6 .i64 uA (comL l m) := RdI.below (w := w4.drewN n5) ur hb6
    clear hb6
    go_wp2_with fail
    refine (picked_any _).mono ?_
    rintro e w7 ⟨rfl, hb7⟩
    obtain ⟨hc7, hf7⟩ := bcell hb7
    have hz7 : w.heap.size < w7.heap.size := by have := hb7.size; (try simp at this); omega
    have HB7 := Lib.hid (bT HB6.out hb7)
    replace ur6 := ur6.below hb7
    clear hb7
    go_wp2_with fail
    refine (bar_any a0 a1 a2 a3 a4 a5 a6 a7 a8 a9 a10 _ _).mono ?_
    rintro e w8 ⟨rfl, hb8⟩
    obtain ⟨hc8, hf8⟩ := bcell hb8
    have hz8 : w.heap.size < w8.heap.size := by have := hb8.size; (try simp at this); omega
    have HB8 := Lib.hid (bT HB7.out hb8)
    replace ur6 := ur6.below hb8
    clear hb8
    go_wp2_with fail
    refine (negoIs_any uA uc (comL l m) _ ur6 (by omega)).mono ?_
    rintro e w9 ⟨rfl, n9, rfl⟩
    obtain ⟨ad, rfl, hcell⟩ := ur6.at_ hltn
    rw [← EP.out] at hcell
    go_wp2
    go_ret
    have h := HB8.out
    exact ⟨by simp, by repeat (first | (with_reducible exact bR _) | (with_reducible refine bT ?_ (by assumption)) | (with_reducible apply bA) | (with_reducible apply bD) | (with_reducible apply bN) | (with_reducible refine bS ?_ (by first | omega | (simp; done) | (simp; omega))))⟩
  · have hd : (forE (tkB a0 a1 a2 a3 a4 a5 a6 a7 a8 a9 a10) a5 a6 l m != 0) = true := by simpa using hF
    have hV := for_no hF
    clear hF
    go_enter Try.func11, Try.ntmps11
    go_wp2_with fail
    refine (common_any A B c d l m _ hr hs hl hm).mono ?_
    rintro e w1 ⟨u, rfl, uo, hb1⟩
    obtain ⟨hc1, hf1⟩ := bcell hb1
    have hz1 : w.heap.size < w1.heap.size := by have := hb1.size; (try simp at this); omega
    have HB1 := Lib.hid (bT HB0.out hb1)
    replace hr := hr.below hb1
    replace hs := hs.below hb1
    obtain ⟨uA, uc, rfl, _, _⟩ := own_slice uo
    have ur := RdI.of_own uo
    clear uo
    clear hb1
    go_wp2_with fail
    refine (common_any B A d c m l _ hs hr hm hl).mono ?_
    rintro e w2 ⟨v, rfl, vo, hb2⟩
    obtain ⟨hc2, hf2⟩ := bcell hb2
    have hz2 : w.heap.size < w2.heap.size := by have := hb2.size; (try simp at this); omega
    have HB2 := Lib.hid (bT HB1.out hb2)
    replace hr := hr.below hb2
    replace hs := hs.below hb2
    replace ur := ur.below hb2
    clear hb2
    rw [comL_comm m l] at vo
    obtain ⟨vA, vc, rfl, _, _⟩ := own_slice vo
    have vr := RdI.of_own vo
    clear vo
    go_wp2_with fail
    refine (for_any a0 a1 a2 a3 a4 a5 a6 a7 a8 a9 a10 A B c d l m _ hr hs hl hm).mono ?_
    rintro e w3 ⟨rfl, hb3⟩
    obtain ⟨hc3, hf3⟩ := bcell hb3
    have hz3 : w.heap.size < w3.heap.size := by have := hb3.size; (try simp at this); omega
    have HB3 := Lib.hid (bT HB2.out hb3)
    replace hr := hr.below hb3
    replace hs := hs.below hb3
    replace ur := ur.below hb3
    replace vr := vr.below hb3
    clear hb3
    go_wp2_with fail
    refine (for_any a0 a1 a2 a3 a4 a5 a6 a7 a8 a9 a10 B A d c m l _ hs hr hm hl).mono ?_
    rintro e w4 ⟨rfl, hb4⟩
    obtain ⟨hc4, hf4⟩ := bcell hb4
    have hz4 : w.heap.size < w4.heap.size := by have := hb4.size; (try simp at this); omega
    have HB4 := Lib.hid (bT HB3.out hb4)
    replace hr := hr.below hb4
    replace hs := hs.below hb4
    replace ur := ur.below hb4
    replace vr := vr.below hb4
    clear hb4
    go_wp2_with fail
    refine (same07_any _ _ _ _ (comL l m) (comL l m) _ ur vr (by omega) (by omega)).mono ?_
    rintro e w5 ⟨rfl, n5, rfl⟩
    go_wp2_with fail
    refine (picked_any _).mono ?_
    rintro e w6 ⟨rfl, hb6⟩
    go_wp2
    go_ret
    have h := bT (bN HB4.out n5) hb6
    clear hb6
    exact ⟨by simp, by repeat (first | (with_reducible exact bR _) | (with_reducible refine bT ?_ (by assumption)) | (with_reducible apply bA) | (with_reducible apply bD) | (with_reducible apply bN) | (with_reducible refine bS ?_ (by first | omega | (simp; done) | (simp; omega))))⟩
end Go.Proofs.Ythejnlelegcgfaa
