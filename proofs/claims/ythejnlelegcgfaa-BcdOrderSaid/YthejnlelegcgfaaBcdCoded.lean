/- Layer 12's examples, walked: they come to true. No condition. -/
import Derived.Test.YthejnlelegcgfaaBcdSplit
import Derived.Test.YthejnlelegcgfaaBcdPutRef
import Derived.Test.YthejnlelegcgfaaSame
namespace Go.Proofs.Ythejnlelegcgfaa
open Go.RowKit
set_option linter.unusedVariables false
set_option linter.unusedSimpArgs false

set_option maxHeartbeats 8000000 in
set_option maxRecDepth 100000 in
theorem coded_any (w : World) : Calls Try.prog 29 #[] w fun e w' => e = .returned (.bool true) ∧ Below w.heap.size w w' := by
  have p1 : putL 40 4 = [0, 0, 4, 0] := by decide
  have p2 : putE 40 4 = 0 := by decide
  have p3 : putL 100 2 = [] := by decide
  have p4 : putE 100 2 = 23 := by decide
  have p5 : (getR [0, 4, 0]).1 = 40 := by decide
  have p6 : (getR [0, 4, 0]).2 = 0 := by decide
  have p7 : (getR [10]).2 = 7 := by decide
  have p8 : (joinR [7, 12] [1, 3]).1 = [7, 0, 1, 2] := by decide
  have p9 : (joinR [7, 12] [1, 3]).2 = 0 := by decide
  have p10 : (splitR [7, 0, 1, 2] [1, 3]).1 = [7, 12] := by decide
  have p11 : (splitR [7, 0, 1, 2] [1, 3]).2 = 0 := by decide
  have p12 : (splitR [7, 0, 1] [1, 3]).2 = 14 := by decide
  have p13 : (joinR [7] [1, 3]).2 = 1 := by decide
  go_enter Try.func29, Try.ntmps29
  go_wp2_with fail
  refine (bcdPut_any 40 4 _ (by decide)).mono ?_
  rintro e w1 ⟨v1, rfl, ho1, hb1⟩
  rw [p1] at ho1
  obtain ⟨A1, c1, rfl, _, _⟩ := own_slice ho1
  have r1 := RdI.of_own (l := [0, 0, 4, 0]) ho1
  have HB1 := Lib.hid hb1
  clear ho1 hb1
  go_wp2_with fail
  refine (bcdPut_any 100 2 _ (by decide)).mono ?_
  rintro e w2 ⟨v2, rfl, ho2, hb2⟩
  replace r1 := r1.below hb2
  have HB2 := Lib.hid (bT HB1.out hb2)
  clear ho2 hb2
  go_wp2_with fail
  refine (bcdGet_any (some ⟨w2.heap.size, 0, none⟩) 3 [0, 4, 0] _ ?_ (by decide)).mono ?_
  · exact RdI.lit' (l := [0, 4, 0]) rfl
  rintro e w3 ⟨rfl, hw3⟩
  have hb3 : Below w2.heap.size w2 w3 := by rw [← hw3]; exact bel1 _ _
  replace r1 := r1.below hb3
  have HB3 := Lib.hid (bT HB2.out hb3)
  clear hw3 hb3
  go_wp2_with fail
  refine (bcdGet_any (some ⟨w3.heap.size, 0, none⟩) 1 [10] _ ?_ (by decide)).mono ?_
  · exact RdI.lit' (l := [10]) rfl
  rintro e w4 ⟨rfl, hw4⟩
  have hb4 : Below w3.heap.size w3 w4 := by rw [← hw4]; exact bel1 _ _
  replace r1 := r1.below hb4
  have HB4 := Lib.hid (bT HB3.out hb4)
  clear hw4 hb4
  go_wp2_with fail
  refine (bcdJoin_any (some ⟨w4.heap.size, 0, none⟩) (some ⟨w4.heap.size + 1, 0, none⟩) 2 2 [7, 12] [1, 3] _ ?_ ?_ (by decide) (by decide) (by decide)).mono ?_
  · exact RdI.lit2a' (l := [7, 12]) rfl
  · exact RdI.lit2b' (l := [1, 3]) rfl
  rintro e w5 ⟨v5, rfl, ho5, hb5⟩
  have h45 : Below w4.heap.size w4 w5 := bT (bA (bA (bR w4) _) _) hb5
  rw [p8] at ho5
  obtain ⟨A5, c5, rfl, _, _⟩ := own_slice ho5
  have r5 := RdI.of_own (l := [7, 0, 1, 2]) ho5
  replace r1 := r1.below h45
  have HB5 := Lib.hid (bT HB4.out h45)
  clear ho5 hb5 h45
  go_wp2_with fail
  refine (bcdSplit_any (some ⟨w5.heap.size, 0, none⟩) (some ⟨w5.heap.size + 1, 0, none⟩) 4 2 [7, 0, 1, 2] [1, 3] _ ?_ ?_ (by decide) (by decide) (by decide) (by decide)).mono ?_
  · exact RdI.lit2a' (l := [7, 0, 1, 2]) rfl
  · exact RdI.lit2b' (l := [1, 3]) rfl
  rintro e w6 ⟨v6, rfl, ho6, hb6⟩
  have h56 : Below w5.heap.size w5 w6 := bT (bA (bA (bR w5) _) _) hb6
  rw [p10] at ho6
  obtain ⟨A6, c6, rfl, _, _⟩ := own_slice ho6
  have r6 := RdI.of_own (l := [7, 12]) ho6
  replace r1 := r1.below h56
  replace r5 := r5.below h56
  have HB6 := Lib.hid (bT HB5.out h56)
  clear ho6 hb6 h56
  go_wp2_with fail
  refine (bcdSplit_any (some ⟨w6.heap.size, 0, none⟩) (some ⟨w6.heap.size + 1, 0, none⟩) 3 2 [7, 0, 1] [1, 3] _ ?_ ?_ (by decide) (by decide) (by decide) (by decide)).mono ?_
  · exact RdI.lit2a' (l := [7, 0, 1]) rfl
  · exact RdI.lit2b' (l := [1, 3]) rfl
  rintro e w7 ⟨v7, rfl, ho7, hb7⟩
  have h67 : Below w6.heap.size w6 w7 := bT (bA (bA (bR w6) _) _) hb7
  replace r1 := r1.below h67
  replace r5 := r5.below h67
  replace r6 := r6.below h67
  have HB7 := Lib.hid (bT HB6.out h67)
  clear ho7 hb7 h67
  go_wp2_with fail
  refine (bcdJoin_any (some ⟨w7.heap.size, 0, none⟩) (some ⟨w7.heap.size + 1, 0, none⟩) 1 2 [7] [1, 3] _ ?_ ?_ (by decide) (by decide) (by decide)).mono ?_
  · exact RdI.lit2a' (l := [7]) rfl
  · exact RdI.lit2b' (l := [1, 3]) rfl
  rintro e w8 ⟨v8, rfl, ho8, hb8⟩
  have h78 : Below w7.heap.size w7 w8 := bT (bA (bA (bR w7) _) _) hb8
  replace r1 := r1.below h78
  replace r5 := r5.below h78
  replace r6 := r6.below h78
  have HB8 := Lib.hid (bT HB7.out h78)
  clear ho8 hb8 h78
  go_wp2_with fail
  refine (same01_any A1 (some ⟨w8.heap.size, 0, none⟩) c1 4 [0, 0, 4, 0] [0, 0, 4, 0] _ ?_ ?_ (by decide) (by decide)).mono ?_
  · exact r1.below (bel1 _ _)
  · exact RdI.lit' (l := [0, 0, 4, 0]) rfl
  rintro e w9 ⟨rfl, n9, rfl⟩
  have q1 : (([0, 0, 4, 0] : List Int) == [0, 0, 4, 0]) = true := by decide
  go_wp2_with fail
  refine (same01_any A5 (some ⟨w8.heap.size + 1, 0, none⟩) c5 4 [7, 0, 1, 2] [7, 0, 1, 2] _ ?_ ?_ (by decide) (by decide)).mono ?_
  · exact r5.below ((by repeat (first | (with_reducible exact bR _) | (with_reducible refine bT ?_ (by assumption)) | (with_reducible apply bA) | (with_reducible apply bD) | (with_reducible apply bN) | (with_reducible refine bS ?_ (by first | omega | (simp; done) | (simp; omega))))))
  · exact RdI.lit' (l := [7, 0, 1, 2]) (by simp)
  rintro e w10 ⟨rfl, n10, rfl⟩
  have q2 : (([7, 0, 1, 2] : List Int) == [7, 0, 1, 2]) = true := by decide
  go_wp2_with fail
  refine (same07_any A6 (some ⟨w8.heap.size + 1 + 1, 0, none⟩) c6 2 [7, 12] [7, 12] _ ?_ ?_ (by decide) (by decide)).mono ?_
  · exact r6.below ((by repeat (first | (with_reducible exact bR _) | (with_reducible refine bT ?_ (by assumption)) | (with_reducible apply bA) | (with_reducible apply bD) | (with_reducible apply bN) | (with_reducible refine bS ?_ (by first | omega | (simp; done) | (simp; omega))))))
  · exact RdI.lit' (l := [7, 12]) (by simp)
  rintro e w11 ⟨rfl, n11, rfl⟩
  have q3 : (([7, 12] : List Int) == [7, 12]) = true := by decide
  go_wp2
  go_ret
  have hb := HB8.out
  exact ⟨by simp, by repeat (first | (with_reducible exact bR _) | (with_reducible refine bT ?_ (by assumption)) | (with_reducible apply bA) | (with_reducible apply bD) | (with_reducible apply bN) | (with_reducible refine bS ?_ (by first | omega | (simp; done) | (simp; omega))))⟩
end Go.Proofs.Ythejnlelegcgfaa
