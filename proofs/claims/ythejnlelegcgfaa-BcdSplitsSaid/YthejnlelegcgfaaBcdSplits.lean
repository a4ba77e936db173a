/- Layer 12's law BcdSplits, walked: it comes to true. No condition. -/
import Derived.Test.YthejnlelegcgfaaBcdBack
namespace Go.Proofs.Ythejnlelegcgfaa
open Go.RowKit
set_option linter.unusedVariables false
set_option linter.unusedSimpArgs false

theorem joinGo_byte : ∀ (l m acc : List Int), (∀ x ∈ acc, 0 ≤ x ∧ x < 256) → ∀ x ∈ (joinGo l m acc).1, 0 ≤ x ∧ x < 256
  | [], m, acc, h => by simpa [joinGo] using h
  | v :: l, [], acc, h => by simpa [joinGo] using h
  | v :: l, x :: m, acc, h => by
    rw [joinGo_cons]
    split
    · simp
    · refine joinGo_byte l m _ fun y hy => ?_
      rcases List.mem_append.1 hy with k | k
      · exact h y k
      · exact putL_byte v x y k
theorem joinR_byte (l m : List Int) : ∀ x ∈ (joinR l m).1, 0 ≤ x ∧ x < 256 := by
  by_cases h : l.length ≠ m.length ∨ 20 < l.length
  · rw [joinR_arg h]; simp
  · rw [joinR_go (by omega) (by omega)]; exact joinGo_byte l m [] (by simp)
theorem splitGo_val : ∀ (m l acc : List Int), (∀ x ∈ l, 0 ≤ x ∧ x < 256) → (∀ x ∈ acc, x ≤ 9223372036854775807) → ∀ x ∈ (splitGo l m acc).1, x ≤ 9223372036854775807
  | [], l, acc, hb, h => by simpa [splitGo] using h
  | v :: m, l, acc, hb, h => by
    rw [splitGo_cons]
    split
    · simp
    · rename_i hg
      refine splitGo_val m _ _ (fun y hy => hb y (List.mem_of_mem_drop hy)) fun y hy => ?_
      rcases List.mem_append.1 hy with k | k
      · exact h y k
      · rw [List.mem_singleton.1 k]; exact getR_lt (fun z hz => hb z (List.mem_of_mem_take hz)) (by simpa using hg)
theorem splitR_le {l m : List Int} (hb : ∀ x ∈ l, 0 ≤ x ∧ x < 256) : ∀ x ∈ (splitR l m).1, x ≤ 9223372036854775807 := by
  unfold splitR
  split
  · simp
  · split
    · simp
    · split
      · simp
      · exact splitGo_val m l [] hb (by simp)

set_option maxHeartbeats 8000000 in
set_option maxRecDepth 100000 in
theorem bcdSplits_any (A B C : Option Addr) (c d q : Nat) (l m b : List Int) (w : World) (hr : RdI w .i64 A l) (hs : RdI w .i64 B m) (ht : RdI w .u8 C b)
    (hl : l.length ≤ 9223372036854775807) (hm : m.length ≤ 9223372036854775807) (hbl : b.length ≤ 9223372036854775807) (hbq : b.length ≤ q ∧ q ≤ 9223372036854775807) (hb : ∀ x ∈ b, 0 ≤ x ∧ x < 256) (hv : ∀ x ∈ l, x ≤ 9223372036854775807) :
    Calls Try.prog 8 #[.slice A l.length c, .slice B m.length d, .slice C b.length q] w fun e w' => e = .returned (.bool true) ∧ Below w.heap.size w w' := by
  by_cases h1 : 100 < l.length
  · go_enter Try.func8, Try.ntmps8
    go_wp2
    go_ret
    exact ⟨rfl, (by repeat (first | (with_reducible exact bR _) | (with_reducible refine bT ?_ (by assumption)) | (with_reducible apply bA) | (with_reducible apply bD) | (with_reducible apply bN) | (with_reducible refine bS ?_ (by first | omega | (simp; done) | (simp; omega)))))⟩
  by_cases h2 : 100 < m.length
  · go_enter Try.func8, Try.ntmps8
    go_wp2
    go_ret
    exact ⟨rfl, (by repeat (first | (with_reducible exact bR _) | (with_reducible refine bT ?_ (by assumption)) | (with_reducible apply bA) | (with_reducible apply bD) | (with_reducible apply bN) | (with_reducible refine bS ?_ (by first | omega | (simp; done) | (simp; omega)))))⟩
  by_cases h3 : 1000 < b.length
  · go_enter Try.func8, Try.ntmps8
    go_wp2
    go_ret
    exact ⟨rfl, (by repeat (first | (with_reducible exact bR _) | (with_reducible refine bT ?_ (by assumption)) | (with_reducible apply bA) | (with_reducible apply bD) | (with_reducible apply bN) | (with_reducible refine bS ?_ (by first | omega | (simp; done) | (simp; omega)))))⟩
  have HB0 := Lib.hid (bR w)
  have HS := Lib.hid (splitR_len2 b m)
  by_cases hJ : (joinR l m).2 = 0
  · have hsj := splitR_join hJ
    have hj1 := Lib.hid (show (splitR (joinR l m).1 m).1 = l by rw [hsj])
    have hj2 : (splitR (joinR l m).1 m).2 = 0 := by rw [hsj]
    clear hsj
    by_cases hS : (splitR b m).2 = 0
    · have hjs := joinR_split hb hS
      have hs1 := Lib.hid (show (joinR (splitR b m).1 m).1 = b by rw [hjs])
      have hs2 : (joinR (splitR b m).1 m).2 = 0 := by rw [hjs]
      clear hjs
      go_enter Try.func8, Try.ntmps8
      go_wp2_with fail
      refine (bcdJoin_any A B c d l m _ hr hs hl hm hv).mono ?_
      rintro e w1 ⟨u, rfl, uo, hb1⟩
      have HB1 := Lib.hid (bT HB0.out hb1)
      replace hr := hr.below hb1
      replace hs := hs.below hb1
      replace ht := ht.below hb1
      obtain ⟨uA, uc, rfl, hu1, hu2⟩ := own_slice uo
      have ur := RdI.of_own uo
      unfold maxLen at hu2
      clear uo hb1
      go_wp2_with fail
      refine (bcdSplit_any uA B uc d (joinR l m).1 m _ ur hs hu1 (by omega) hm (joinR_byte l m)).mono ?_
      rintro e w2 ⟨x, rfl, xo, hb2⟩
      have HB2 := Lib.hid (bT HB1.out hb2)
      replace hr := hr.below hb2
      replace hs := hs.below hb2
      replace ht := ht.below hb2
      rw [hj1.out] at xo
      obtain ⟨xA, xc, rfl, _, _⟩ := own_slice xo
      have xr := RdI.of_own xo
      clear xo hb2
      go_wp2_with fail
      refine (same07_any _ _ _ _ l l _ xr hr hl hl).mono ?_
      rintro e w3 ⟨rfl, n3, rfl⟩
      have hself : (l == l) = true := by simp
      have HB3 : Hid (Below w.heap.size w (w2.drewN n3)) := Lib.hid (by have h := HB2.out; repeat (first | (with_reducible exact bR _) | (with_reducible refine bT ?_ (by assumption)) | (with_reducible apply bA) | (with_reducible apply bD) | (with_reducible apply bN) | (with_reducible refine bS ?_ (by first | omega | (simp; done) | (simp; omega)))))
      replace hs : RdI (w2.drewN n3) _ _ _ := hs
      replace ht : RdI (w2.drewN n3) _ _ _ := ht
      go_wp2_with fail
      refine (bcdSplit_any C B q d b m _ ht hs hbq.1 hbq.2 hm hb).mono ?_
      rintro e w4 ⟨y, rfl, yo, hb4⟩
      have HB4 := Lib.hid (bT HB3.out hb4)
      replace hs := hs.below hb4
      replace ht := ht.below hb4
      obtain ⟨yA, yc, rfl, _, _⟩ := own_slice yo
      have yr := RdI.of_own yo
      clear yo hb4
      go_wp2_with fail
      refine (bcdJoin_any yA B yc d (splitR b m).1 m _ yr hs HS.out hm (splitR_le hb)).mono ?_
      rintro e w5 ⟨z, rfl, zo, hb5⟩
      have HB5 := Lib.hid (bT HB4.out hb5)
      replace ht := ht.below hb5
      rw [hs1.out] at zo
      obtain ⟨zA, zc, rfl, _, _⟩ := own_slice zo
      have zr := RdI.of_own zo
      clear zo hb5
      go_wp2_with fail
      refine (coded_any _).mono ?_
      rintro e w6 ⟨rfl, hb6⟩
      have HB6 := Lib.hid (bT HB5.out hb6)
      replace ht := ht.below hb6
      replace zr := zr.below hb6
      clear hb6
      go_wp2_with fail
      refine (same01_any _ _ _ _ b b _ zr ht hbl hbl).mono ?_
      rintro e w8 ⟨rfl, n8, rfl⟩
      have hself2 : (b == b) = true := by simp
      go_wp2
      go_ret
      exact ⟨by simp, by have h := HB6.out; repeat (first | (with_reducible exact bR _) | (with_reducible refine bT ?_ (by assumption)) | (with_reducible apply bA) | (with_reducible apply bD) | (with_reducible apply bN) | (with_reducible refine bS ?_ (by first | omega | (simp; done) | (simp; omega))))⟩
    · have hS2 : ((splitR b m).2 != 0) = true := by simpa using hS
      have hS1 : (splitR b m).1.length = 0 := by rw [splitR_fail hS]; rfl
      go_enter Try.func8, Try.ntmps8
      go_wp2_with fail
      refine (bcdJoin_any A B c d l m _ hr hs hl hm hv).mono ?_
      rintro e w1 ⟨u, rfl, uo, hb1⟩
      have HB1 := Lib.hid (bT HB0.out hb1)
      replace hr := hr.below hb1
      replace hs := hs.below hb1
      replace ht := ht.below hb1
      obtain ⟨uA, uc, rfl, hu1, hu2⟩ := own_slice uo
      have ur := RdI.of_own uo
      unfold maxLen at hu2
      clear uo hb1
      go_wp2_with fail
      refine (bcdSplit_any uA B uc d (joinR l m).1 m _ ur hs hu1 (by omega) hm (joinR_byte l m)).mono ?_
      rintro e w2 ⟨x, rfl, xo, hb2⟩
      have HB2 := Lib.hid (bT HB1.out hb2)
      replace hr := hr.below hb2
      replace hs := hs.below hb2
      replace ht := ht.below hb2
      rw [hj1.out] at xo
      obtain ⟨xA, xc, rfl, _, _⟩ := own_slice xo
      have xr := RdI.of_own xo
      clear xo hb2
      go_wp2_with fail
      refine (same07_any _ _ _ _ l l _ xr hr hl hl).mono ?_
      rintro e w3 ⟨rfl, n3, rfl⟩
      have hself : (l == l) = true := by simp
      have HB3 : Hid (Below w.heap.size w (w2.drewN n3)) := Lib.hid (by have h := HB2.out; repeat (first | (with_reducible exact bR _) | (with_reducible refine bT ?_ (by assumption)) | (with_reducible apply bA) | (with_reducible apply bD) | (with_reducible apply bN) | (with_reducible refine bS ?_ (by first | omega | (simp; done) | (simp; omega)))))
      replace hs : RdI (w2.drewN n3) _ _ _ := hs
      replace ht : RdI (w2.drewN n3) _ _ _ := ht
      go_wp2_with fail
      refine (bcdSplit_any C B q d b m _ ht hs hbq.1 hbq.2 hm hb).mono ?_
      rintro e w4 ⟨y, rfl, yo, hb4⟩
      have HB4 := Lib.hid (bT HB3.out hb4)
      replace hs := hs.below hb4
      replace ht := ht.below hb4
      obtain ⟨yA, yc, rfl, _, _⟩ := own_slice yo
      have yr := RdI.of_own yo
      clear yo hb4
      go_wp2_with fail
      refine (coded_any _).mono ?_
      rintro e w5 ⟨rfl, hb5⟩
      have HB5 := Lib.hid (bT HB4.out hb5)
      clear hb5
      go_wp2
      go_ret
      exact ⟨by simp, by have h := HB5.out; repeat (first | (with_reducible exact bR _) | (with_reducible refine bT ?_ (by assumption)) | (with_reducible apply bA) | (with_reducible apply bD) | (with_reducible apply bN) | (with_reducible refine bS ?_ (by first | omega | (simp; done) | (simp; omega))))⟩
  · have hJ2 : ((joinR l m).2 == 0) = false := by simpa using hJ
    by_cases hS : (splitR b m).2 = 0
    · have hjs := joinR_split hb hS
      have hs1 := Lib.hid (show (joinR (splitR b m).1 m).1 = b by rw [hjs])
      have hs2 : (joinR (splitR b m).1 m).2 = 0 := by rw [hjs]
      clear hjs
      go_enter Try.func8, Try.ntmps8
      go_wp2_with fail
      refine (bcdJoin_any A B c d l m _ hr hs hl hm hv).mono ?_
      rintro e w1 ⟨u, rfl, uo, hb1⟩
      have HB1 := Lib.hid (bT HB0.out hb1)
      replace hr := hr.below hb1
      replace hs := hs.below hb1
      replace ht := ht.below hb1
      obtain ⟨uA, uc, rfl, hu1, hu2⟩ := own_slice uo
      have ur := RdI.of_own uo
      unfold maxLen at hu2
      clear uo hb1
      go_wp2_with fail
      refine (bcdSplit_any C B q d b m _ ht hs hbq.1 hbq.2 hm hb).mono ?_
      rintro e w4 ⟨y, rfl, yo, hb4⟩
      have HB4 := Lib.hid (bT HB1.out hb4)
      replace hs := hs.below hb4
      replace ht := ht.below hb4
      obtain ⟨yA, yc, rfl, _, _⟩ := own_slice yo
      have yr := RdI.of_own yo
      clear yo hb4
      go_wp2_with fail
      refine (bcdJoin_any yA B yc d (splitR b m).1 m _ yr hs HS.out hm (splitR_le hb)).mono ?_
      rintro e w5 ⟨z, rfl, zo, hb5⟩
      have HB5 := Lib.hid (bT HB4.out hb5)
      replace ht := ht.below hb5
      rw [hs1.out] at zo
      obtain ⟨zA, zc, rfl, _, _⟩ := own_slice zo
      have zr := RdI.of_own zo
      clear zo hb5
      go_wp2_with fail
      refine (coded_any _).mono ?_
      rintro e w6 ⟨rfl, hb6⟩
      have HB6 := Lib.hid (bT HB5.out hb6)
      replace ht := ht.below hb6
      replace zr := zr.below hb6
      clear hb6
      go_wp2_with fail
      refine (same01_any _ _ _ _ b b _ zr ht hbl hbl).mono ?_
      rintro e w8 ⟨rfl, n8, rfl⟩
      have hself2 : (b == b) = true := by simp
      go_wp2
      go_ret
      exact ⟨by simp, by have h := HB6.out; repeat (first | (with_reducible exact bR _) | (with_reducible refine bT ?_ (by assumption)) | (with_reducible apply bA) | (with_reducible apply bD) | (with_reducible apply bN) | (with_reducible refine bS ?_ (by first | omega | (simp; done) | (simp; omega))))⟩
    · have hS2 : ((splitR b m).2 != 0) = true := by simpa using hS
      have hS1 : (splitR b m).1.length = 0 := by rw [splitR_fail hS]; rfl
      go_enter Try.func8, Try.ntmps8
      go_wp2_with fail
      refine (bcdJoin_any A B c d l m _ hr hs hl hm hv).mono ?_
      rintro e w1 ⟨u, rfl, uo, hb1⟩
      have HB1 := Lib.hid (bT HB0.out hb1)
      replace hr := hr.below hb1
      replace hs := hs.below hb1
      replace ht := ht.below hb1
      obtain ⟨uA, uc, rfl, hu1, hu2⟩ := own_slice uo
      have ur := RdI.of_own uo
      unfold maxLen at hu2
      clear uo hb1
      go_wp2_with fail
      refine (bcdSplit_any C B q d b m _ ht hs hbq.1 hbq.2 hm hb).mono ?_
      rintro e w4 ⟨y, rfl, yo, hb4⟩
      have HB4 := Lib.hid (bT HB1.out hb4)
      replace hs := hs.below hb4
      replace ht := ht.below hb4
      obtain ⟨yA, yc, rfl, _, _⟩ := own_slice yo
      have yr := RdI.of_own yo
      clear yo hb4
      go_wp2_with fail
      refine (coded_any _).mono ?_
      rintro e w5 ⟨rfl, hb5⟩
      have HB5 := Lib.hid (bT HB4.out hb5)
      clear hb5
      go_wp2
      go_ret
      exact ⟨by simp, by have h := HB5.out; repeat (first | (with_reducible exact bR _) | (with_reducible refine bT ?_ (by assumption)) | (with_reducible apply bA) | (with_reducible apply bD) | (with_reducible apply bN) | (with_reducible refine bS ?_ (by first | omega | (simp; done) | (simp; omega))))⟩
end Go.Proofs.Ythejnlelegcgfaa
