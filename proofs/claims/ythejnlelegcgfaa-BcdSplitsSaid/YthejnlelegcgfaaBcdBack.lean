/- Layer 12's law BcdBack, walked: it comes to true. No condition. -/
import Derived.Test.YthejnlelegcgfaaBcdLaw
import Derived.Test.YthejnlelegcgfaaBcdPure
namespace Go.Proofs.Ythejnlelegcgfaa
open Go.RowKit
set_option linter.unusedVariables false
set_option linter.unusedSimpArgs false

theorem putL_byte (n wd : Int) : ∀ x ∈ putL n wd, 0 ≤ x ∧ x < 256 := by
  intro x hx
  unfold putL at hx
  split at hx
  · simp at hx
  · have := dg_byte _ _ x hx; omega
theorem getR_lt {l : List Int} (hb : ∀ x ∈ l, 0 ≤ x ∧ x < 256) (h : (getR l).2 = 0) : (getR l).1 ≤ 9223372036854775807 := by
  obtain ⟨p1, p2⟩ := get_put hb h (getR_len h)
  obtain ⟨k, e, hk, h0, h1, _⟩ := put_ok p1
  have : (10 : Nat) ^ k ≤ 10 ^ 18 := Nat.pow_le_pow_right (by omega) hk
  have e : ((10 ^ k : Nat) : Int) = (10 : Int) ^ k := by simp
  omega

set_option maxHeartbeats 8000000 in
set_option maxRecDepth 100000 in
theorem bcdBack_any (n wd : Int) (A : Option Addr) (c : Nat) (l : List Int) (w : World) (h9 : n ≤ 9223372036854775807) (hr : RdI w .u8 A l) (hl : l.length ≤ 9223372036854775807) (hb : ∀ x ∈ l, 0 ≤ x ∧ x < 256) :
    Calls Try.prog 7 #[.int .i64 n, .int .i64 wd, .slice A l.length c] w fun e w' => e = .returned (.bool true) ∧ Below w.heap.size w w' := by
  have HB0 := Lib.hid (bR w)
  by_cases hP : putE n wd = 0
  · obtain ⟨hgg, hwl⟩ := put_get hP
    have hg1 : (getR (putL n wd)).1 = n := by rw [hgg]
    have hg2 : (getR (putL n wd)).2 = 0 := by rw [hgg]
    clear hgg
    by_cases h18 : 18 < l.length
    · go_enter Try.func7, Try.ntmps7
      go_wp2_with fail
      refine (bcdPut_any n wd _ h9).mono ?_
      rintro e w1 ⟨u, rfl, uo, hb1⟩
      have HB1 := Lib.hid (bT HB0.out hb1)
      replace hr := hr.below hb1
      obtain ⟨uA, uc, rfl, _, _⟩ := own_slice uo
      have ur := RdI.of_own uo
      clear uo
      clear hb1
      have hub := putL_byte n wd
      go_wp2_with fail
      refine (bcdGet_any _ _ (putL n wd) _ ur hub).mono ?_
      rintro e w2 ⟨rfl, rfl⟩
      go_wp2_with fail
      refine (coded_any _).mono ?_
      rintro e w2 ⟨rfl, hb2⟩
      have HB2 := Lib.hid (bT HB1.out hb2)
      clear hb2
      go_wp2
      go_ret
      exact ⟨by simp, by have h := HB2.out; repeat (first | (with_reducible exact bR _) | (with_reducible refine bT ?_ (by assumption)) | (with_reducible apply bA) | (with_reducible apply bD) | (with_reducible apply bN) | (with_reducible refine bS ?_ (by first | omega | (simp; done) | (simp; omega))))⟩
    · by_cases hG : (getR l).2 = 0
      · obtain ⟨hq1, hq2⟩ := get_put hb hG h18
        have hg9 := getR_lt hb hG
        have HQ := Lib.hid hq2
        clear hq2
        go_enter Try.func7, Try.ntmps7
        go_wp2_with fail
        refine (bcdPut_any n wd _ h9).mono ?_
        rintro e w1 ⟨u, rfl, uo, hb1⟩
        have HB1 := Lib.hid (bT HB0.out hb1)
        replace hr := hr.below hb1
        obtain ⟨uA, uc, rfl, _, _⟩ := own_slice uo
        have ur := RdI.of_own uo
        clear uo
        clear hb1
        have hub := putL_byte n wd
        go_wp2_with fail
        refine (bcdGet_any _ _ (putL n wd) _ ur hub).mono ?_
        rintro e w2 ⟨rfl, rfl⟩
        go_wp2_with fail
        refine (bcdGet_any A c l _ hr hb).mono ?_
        rintro e w2 ⟨rfl, rfl⟩
        go_wp2_with fail
        refine (bcdPut_any (getR l).1 l.length _ hg9).mono ?_
        rintro e w2 ⟨v, rfl, vo, hb2⟩
        have HB2 := Lib.hid (bT HB1.out hb2)
        replace hr := hr.below hb2
        obtain ⟨vA, vc, rfl, _, _⟩ := own_slice vo
        have vr := RdI.of_own vo
        clear vo
        clear hb2
        go_wp2_with fail
        refine (coded_any _).mono ?_
        rintro e w3 ⟨rfl, hb3⟩
        have HB3 := Lib.hid (bT HB2.out hb3)
        replace hr := hr.below hb3
        replace vr := vr.below hb3
        clear hb3
        go_wp2_with fail
        refine (same01_any _ _ _ _ (putL (getR l).1 l.length) l _ vr hr (by have := putL_len (getR l).1 l.length; omega) hl).mono ?_
        rintro e w8 ⟨rfl, n8, rfl⟩
        have hself : (putL (getR l).1 l.length == l) = true := by simp [HQ.out]
        go_wp2
        go_ret
        exact ⟨by simp, by have h := HB3.out; repeat (first | (with_reducible exact bR _) | (with_reducible refine bT ?_ (by assumption)) | (with_reducible apply bA) | (with_reducible apply bD) | (with_reducible apply bN) | (with_reducible refine bS ?_ (by first | omega | (simp; done) | (simp; omega))))⟩
      · have hG2 : ((getR l).2 != 0) = true := by simpa using hG
        have hG1 := getR_fail hG
        go_enter Try.func7, Try.ntmps7
        go_wp2_with fail
        refine (bcdPut_any n wd _ h9).mono ?_
        rintro e w1 ⟨u, rfl, uo, hb1⟩
        have HB1 := Lib.hid (bT HB0.out hb1)
        replace hr := hr.below hb1
        obtain ⟨uA, uc, rfl, _, _⟩ := own_slice uo
        have ur := RdI.of_own uo
        clear uo
        clear hb1
        have hub := putL_byte n wd
        go_wp2_with fail
        refine (bcdGet_any _ _ (putL n wd) _ ur hub).mono ?_
        rintro e w2 ⟨rfl, rfl⟩
        go_wp2_with fail
        refine (bcdGet_any A c l _ hr hb).mono ?_
        rintro e w2 ⟨rfl, rfl⟩
        go_wp2_with fail
        refine (coded_any _).mono ?_
        rintro e w2 ⟨rfl, hb2⟩
        have HB2 := Lib.hid (bT HB1.out hb2)
        clear hb2
        go_wp2
        go_ret
        exact ⟨by simp, by have h := HB2.out; repeat (first | (with_reducible exact bR _) | (with_reducible refine bT ?_ (by assumption)) | (with_reducible apply bA) | (with_reducible apply bD) | (with_reducible apply bN) | (with_reducible refine bS ?_ (by first | omega | (simp; done) | (simp; omega))))⟩
  · have hP2 : (putE n wd == 0) = false := by simpa using hP
    by_cases h18 : 18 < l.length
    · go_enter Try.func7, Try.ntmps7
      go_wp2_with fail
      refine (bcdPut_any n wd _ h9).mono ?_
      rintro e w1 ⟨u, rfl, uo, hb1⟩
      have HB1 := Lib.hid (bT HB0.out hb1)
      replace hr := hr.below hb1
      obtain ⟨uA, uc, rfl, _, _⟩ := own_slice uo
      have ur := RdI.of_own uo
      clear uo
      clear hb1
      go_wp2_with fail
      refine (coded_any _).mono ?_
      rintro e w2 ⟨rfl, hb2⟩
      have HB2 := Lib.hid (bT HB1.out hb2)
      clear hb2
      go_wp2
      go_ret
      exact ⟨by simp, by have h := HB2.out; repeat (first | (with_reducible exact bR _) | (with_reducible refine bT ?_ (by assumption)) | (with_reducible apply bA) | (with_reducible apply bD) | (with_reducible apply bN) | (with_reducible refine bS ?_ (by first | omega | (simp; done) | (simp; omega))))⟩
    · by_cases hG : (getR l).2 = 0
      · obtain ⟨hq1, hq2⟩ := get_put hb hG h18
        have hg9 := getR_lt hb hG
        have HQ := Lib.hid hq2
        clear hq2
        go_enter Try.func7, Try.ntmps7
        go_wp2_with fail
        refine (bcdPut_any n wd _ h9).mono ?_
        rintro e w1 ⟨u, rfl, uo, hb1⟩
        have HB1 := Lib.hid (bT HB0.out hb1)
        replace hr := hr.below hb1
        obtain ⟨uA, uc, rfl, _, _⟩ := own_slice uo
        have ur := RdI.of_own uo
        clear uo
        clear hb1
        go_wp2_with fail
        refine (bcdGet_any A c l _ hr hb).mono ?_
        rintro e w2 ⟨rfl, rfl⟩
        go_wp2_with fail
        refine (bcdPut_any (getR l).1 l.length _ hg9).mono ?_
        rintro e w2 ⟨v, rfl, vo, hb2⟩
        have HB2 := Lib.hid (bT HB1.out hb2)
        replace hr := hr.below hb2
        obtain ⟨vA, vc, rfl, _, _⟩ := own_slice vo
        have vr := RdI.of_own vo
        clear vo
        clear hb2
        go_wp2_with fail
        refine (coded_any _).mono ?_
        rintro e w3 ⟨rfl, hb3⟩
        have HB3 := Lib.hid (bT HB2.out hb3)
        replace hr := hr.below hb3
        replace vr := vr.below hb3
        clear hb3
        go_wp2_with fail
        refine (same01_any _ _ _ _ (putL (getR l).1 l.length) l _ vr hr (by have := putL_len (getR l).1 l.length; omega) hl).mono ?_
        rintro e w8 ⟨rfl, n8, rfl⟩
        have hself : (putL (getR l).1 l.length == l) = true := by simp [HQ.out]
        go_wp2
        go_ret
        exact ⟨by simp, by have h := HB3.out; repeat (first | (with_reducible exact bR _) | (with_reducible refine bT ?_ (by assumption)) | (with_reducible apply bA) | (with_reducible apply bD) | (with_reducible apply bN) | (with_reducible refine bS ?_ (by first | omega | (simp; done) | (simp; omega))))⟩
      · have hG2 : ((getR l).2 != 0) = true := by simpa using hG
        have hG1 := getR_fail hG
        go_enter Try.func7, Try.ntmps7
        go_wp2_with fail
        refine (bcdPut_any n wd _ h9).mono ?_
        rintro e w1 ⟨u, rfl, uo, hb1⟩
        have HB1 := Lib.hid (bT HB0.out hb1)
        replace hr := hr.below hb1
        obtain ⟨uA, uc, rfl, _, _⟩ := own_slice uo
        have ur := RdI.of_own uo
        clear uo
        clear hb1
        go_wp2_with fail
        refine (bcdGet_any A c l _ hr hb).mono ?_
        rintro e w2 ⟨rfl, rfl⟩
        go_wp2_with fail
        refine (coded_any _).mono ?_
        rintro e w2 ⟨rfl, hb2⟩
        have HB2 := Lib.hid (bT HB1.out hb2)
        clear hb2
        go_wp2
        go_ret
        exact ⟨by simp, by have h := HB2.out; repeat (first | (with_reducible exact bR _) | (with_reducible refine bT ?_ (by assumption)) | (with_reducible apply bA) | (with_reducible apply bD) | (with_reducible apply bN) | (with_reducible refine bS ?_ (by first | omega | (simp; done) | (simp; omega))))⟩
end Go.Proofs.Ythejnlelegcgfaa
