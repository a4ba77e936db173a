/- Layer 12's law BcdOrder, walked: it comes to true. No condition. -/
import Derived.Test.YthejnlelegcgfaaBcdBack
namespace Go.Proofs.Ythejnlelegcgfaa
open Go.RowKit
set_option linter.unusedVariables false
set_option linter.unusedSimpArgs false

theorem keep_ord {W w9 w : World} {a b : Addr} {u v : Value} (h : W.cell? a = some u ∧ W.cell? b = some v ∧ Below w.heap.size w W) (hb : Below W.heap.size W w9) : w9.cell? a = some u ∧ w9.cell? b = some v ∧ Below w.heap.size w w9 :=
  ⟨keep_cell hb h.1, keep_cell hb h.2.1, bT h.2.2 hb⟩

set_option maxHeartbeats 8000000 in
set_option maxRecDepth 100000 in
theorem bcdOrder_any (m n wd : Int) (w : World) (h9 : m ≤ 9223372036854775807) (k9 : n ≤ 9223372036854775807) :
    Calls Try.prog 9 #[.int .i64 m, .int .i64 n, .int .i64 wd] w fun e w' => e = .returned (.bool true) ∧ Below w.heap.size w w' := by
  have HB0 := Lib.hid (bR w)
  by_cases hM : putE m wd = 0
  · by_cases hN : putE n wd = 0
    · have hcmp := cmp_put hM hN
      have hl1 := (put_get hM).2
      have hl2 := (put_get hN).2
      have hb1 := putL_len m wd
      have hb2 := putL_len n wd
      have HL := Lib.hid (show (putL m wd).length = (putL n wd).length by omega)
      have HC := Lib.hid hcmp
      have H1 := Lib.hid hb1
      have hd : (((putL m wd).length : Int) != ((putL n wd).length : Int)) = false := by rw [HL.out]; simp
      clear hl1 hl2 hcmp hb1 hb2
      go_enter Try.func9, Try.ntmps9
      go_wp2_with fail
      refine (bcdPut_any m wd _ h9).mono ?_
      rintro e w1 ⟨u, rfl, uo, hb1⟩
      have HB1 := Lib.hid (bT HB0.out hb1)
      obtain ⟨uA, uc, rfl, _, _⟩ := own_slice uo
      have ur := RdI.of_own uo
      clear uo
      clear hb1
      go_wp2_with fail
      refine (bcdPut_any n wd _ k9).mono ?_
      rintro e w2 ⟨v, rfl, vo, hb2⟩
      have HB2 := Lib.hid (bT HB1.out hb2)
      replace ur := ur.below hb2
      obtain ⟨vA, vc, rfl, _, _⟩ := own_slice vo
      have vr := RdI.of_own vo
      clear vo
      clear hb2
      go_wp2
      go_loopw [11] (fun i wr => ∃ k nn : Nat, k ≤ (putL m wd).length ∧ i = .int .i64 k ∧ wr = w2.drewN nn ∧ Hid (cmpL ((putL m wd).drop k) ((putL n wd).drop k) = cmpL (putL m wd) (putL n wd))) (fun i _ => (putL m wd).length - (intOf i).toNat)
      case atStart => exact ⟨0, 0, Nat.zero_le _, rfl, rfl, Lib.hid (by simp)⟩
      case round =>
        obtain ⟨k, nn, hk, rfl, rfl, hg⟩ := hrel
        by_cases hlt : k < (putL m wd).length
        · have hlt2 : k < (putL n wd).length := by rw [← HL.out]; exact hlt
          obtain ⟨ad, rfl, hc⟩ := ur.at_ hlt
          obtain ⟨bd, rfl, hc2⟩ := vr.at_ hlt2
          have hk18 : k < 18 := by have := H1.out; omega
          have e := hg.out
          rw [drop_cons hlt, drop_cons hlt2, cmpL_cons, HC.out] at e
          have He := Lib.hid e
          clear e hg
          generalize (putL m wd).getD k 0 = x at *
          generalize (putL n wd).getD k 0 = y at *
          by_cases hxy : x = y
          · subst hxy
            have hd2 : (x != x) = false := by simp
            have e := He.out
            rw [if_pos rfl, ← HC.out] at e
            have He2 := Lib.hid e
            clear e He
            go_wp2
            go_quiet (fail)
            go_wp2
            go_roundw
            case rel => exact ⟨k + 1, _, by omega, by go_num, rfl, He2⟩
            case measure => simp [intOf]; omega
          · have hd2 : (x != y) = true := by simpa using hxy
            have e := He.out
            rw [if_neg hxy] at e
            have e2 : decide (x < y) = decide (m < n) := by
              split at e
              · cases e
              · exact Option.some.inj e
            have He2 := Lib.hid e2
            clear e e2 He
            go_wp2
            go_quiet (fail)
            go_wp2
            have hbw : ∀ z, Below w.heap.size w (w2.drewN z) := fun z => by have h := HB2.out; repeat (first | (with_reducible exact bR _) | (with_reducible refine bT ?_ (by assumption)) | (with_reducible apply bA) | (with_reducible apply bD) | (with_reducible apply bN) | (with_reducible refine bS ?_ (by first | omega | (simp; done) | (simp; omega))))
            go_region_held3 (fun w9 => w9.cell? (ad.add k) = some (.int .u8 x) ∧ w9.cell? (bd.add k) = some (.int .u8 y) ∧ Below w.heap.size w w9) (first | (go_keep; done) | exact ⟨by simpa using hc, by simpa using hc2, hbw _⟩ | exact keep_ord ⟨by simpa using hc, by simpa using hc2, hbw _⟩ hb | exact keep_ord (by assumption) hb)
              (first | (go_at_call 29; (with_reducible refine (coded_any _).mono ?_); rintro e w3 ⟨rfl, hb⟩))
            go_wp2
            go_ret
            have h3 : w3.cell? (ad.add k) = some (.int .u8 x) ∧ w3.cell? (bd.add k) = some (.int .u8 y) ∧ Below w.heap.size w w3 := by assumption
            exact ⟨by rw [He2.out]; simp, h3.2.2⟩
        · have e := hg.out
          rw [List.drop_eq_nil_of_le (by omega), cmpL_nil, HC.out] at e
          have hmn : m = n := by
            split at e
            · assumption
            · cases e
          subst hmn
          clear e hg
          go_wp2_with fail
          refine (coded_any _).mono ?_
          rintro e w3 ⟨rfl, hb3⟩
          go_wp2
          go_ret
          exact ⟨by simp, by have h := HB2.out; repeat (first | (with_reducible exact bR _) | (with_reducible refine bT ?_ (by assumption)) | (with_reducible apply bA) | (with_reducible apply bD) | (with_reducible apply bN) | (with_reducible refine bS ?_ (by first | omega | (simp; done) | (simp; omega))))⟩
    · have hd : (putE n wd != 0) = true := by simpa using hN
      go_enter Try.func9, Try.ntmps9
      go_wp2_with fail
      refine (bcdPut_any m wd _ h9).mono ?_
      rintro e w1 ⟨u, rfl, uo, hb1⟩
      have HB1 := Lib.hid (bT HB0.out hb1)
      obtain ⟨uA, uc, rfl, _, _⟩ := own_slice uo
      have ur := RdI.of_own uo
      clear uo
      clear hb1
      go_wp2_with fail
      refine (bcdPut_any n wd _ k9).mono ?_
      rintro e w2 ⟨v, rfl, vo, hb2⟩
      have HB2 := Lib.hid (bT HB1.out hb2)
      obtain ⟨vA, vc, rfl, _, _⟩ := own_slice vo
      have vr := RdI.of_own vo
      clear vo
      clear hb2
      go_wp2_with fail
      refine (coded_any _).mono ?_
      rintro e w3 ⟨rfl, hb3⟩
      have HB3 := Lib.hid (bT HB2.out hb3)
      clear hb3
      go_wp2
      go_ret
      exact ⟨by simp, by have h := HB3.out; repeat (first | (with_reducible exact bR _) | (with_reducible refine bT ?_ (by assumption)) | (with_reducible apply bA) | (with_reducible apply bD) | (with_reducible apply bN) | (with_reducible refine bS ?_ (by first | omega | (simp; done) | (simp; omega))))⟩
  · have hd : (putE m wd != 0) = true := by simpa using hM
    go_enter Try.func9, Try.ntmps9
    go_wp2_with fail
    refine (bcdPut_any m wd _ h9).mono ?_
    rintro e w1 ⟨u, rfl, uo, hb1⟩
    have HB1 := Lib.hid (bT HB0.out hb1)
    obtain ⟨uA, uc, rfl, _, _⟩ := own_slice uo
    have ur := RdI.of_own uo
    clear uo
    clear hb1
    go_wp2_with fail
    refine (bcdPut_any n wd _ k9).mono ?_
    rintro e w2 ⟨v, rfl, vo, hb2⟩
    have HB2 := Lib.hid (bT HB1.out hb2)
    obtain ⟨vA, vc, rfl, _, _⟩ := own_slice vo
    have vr := RdI.of_own vo
    clear vo
    clear hb2
    go_wp2_with fail
    refine (coded_any _).mono ?_
    rintro e w3 ⟨rfl, hb3⟩
    have HB3 := Lib.hid (bT HB2.out hb3)
    clear hb3
    go_wp2
    go_ret
    exact ⟨by simp, by have h := HB3.out; repeat (first | (with_reducible exact bR _) | (with_reducible refine bT ?_ (by assumption)) | (with_reducible apply bA) | (with_reducible apply bD) | (with_reducible apply bN) | (with_reducible refine bS ?_ (by first | omega | (simp; done) | (simp; omega))))⟩
end Go.Proofs.Ythejnlelegcgfaa
