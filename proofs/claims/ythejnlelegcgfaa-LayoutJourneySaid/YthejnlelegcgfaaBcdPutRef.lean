/- A number as digits, the reference's side: gatelineref12.Put computes the same digits and the same error as bcd.Put. -/
import Derived.Test.YthejnlelegcgfaaBcdPut
namespace Go.Proofs.Ythejnlelegcgfaa
open Go.RowKit
set_option linter.unusedVariables false
set_option linter.unusedSimpArgs false

set_option maxHeartbeats 2000000 in
theorem refPut_nat (n : Int) (W : Nat) (w : World) (h0 : 0 ≤ n) (h9 : n ≤ 9223372036854775807) (hW : W ≤ 18) :
    Calls Try.prog 26 #[.int .i64 n, .int .i64 W] w (PutRet n W w) := by
  obtain ⟨i0, hi, hz0, hz1, hz2⟩ := info_parts infoU8
  go_enter Try.func26, Try.ntmps26
  go_wp2
  go_loopw [0, 6, 7] (fun nn v i wr => ∃ k : Nat, k ≤ W ∧ i = .int .i64 k ∧ nn = .int .i64 (n / 10 ^ k) ∧ wr.ownsRow w.heap.size 5 1 v (dg k n).length ((dg k n).map (.int .u8)) ∧ Below w.heap.size w wr) (fun _ _ i _ => W - (intOf i).toNat)
  case atStart => exact ⟨0, Nat.zero_le _, rfl, by simp, own_lit0 _ _ _, (by repeat (first | (with_reducible exact bR _) | (with_reducible refine bT ?_ (by assumption)) | (with_reducible apply bA) | (with_reducible apply bD) | (with_reducible apply bN) | (with_reducible refine bS ?_ (by first | omega | (simp; done) | (simp; omega)))))⟩
  case round =>
    obtain ⟨k, hk, rfl, rfl, ho, hbl⟩ := hrel
    obtain ⟨A, c, rfl, _, _⟩ := own_slice ho
    have hr := RdI.of_own ho
    have hq := div_step n k
    have HQ := Lib.hid hq
    have hq0 : 0 ≤ n / 10 ^ k := Int.ediv_nonneg h0 (Int.pow_nonneg (by omega))
    have hq9 : n / 10 ^ k ≤ 9223372036854775807 := Int.le_trans (Int.ediv_le_self _ h0) h9
    have hlen := dg_len k n
    by_cases hlt : k < W
    · have HD := Lib.hid (dg_succ k n)
      have hsz := hbl.size
      have HL := Lib.hid hlen
      clear ho hq hlen
      generalize n / 10 ^ k = q at *
      generalize dg k n = D at *
      go_wp2_with (first
        | (at_builtin; go_must (refine wpL_app (k := .u8) rfl _ _ 30 rfl w.heap.size 5 i0 (.int .u8 0) 1 Try.underlying30 hi hz0 hz1 hz2 rfl _ [q % 10] rfl (own_base (own_lit1 _ _ _ _) hsz) _ _ D rfl (hr.below (bel1 _ _)) ?_ ?_ ?_ ?_; (focus (have hL := HL.out; simp only [List.length_cons, List.length_nil]; exact maxLen_ge (by omega))); (focus (have hL := HL.out; simp only [List.length_cons, List.length_nil]; omega)); (focus (simp; omega)); intro v2 w2 ho2 hg2 _)))
      have h2 := bG (bA hbl _) hg2 (fun j hj => by have := ob_slice hj; omega)
      have HO := Lib.hid ho2
      clear hr hg2 ho2
      go_wp2
      go_roundw
      case rel => exact ⟨k + 1, by omega, by go_num, by rw [HQ.out], by rw [HD.out]; exact HO.out, h2⟩
      case measure => simp [intOf]; omega
    · obtain rfl : k = W := by omega
      by_cases hov : 0 < n / 10 ^ k
      · have E1 := Lib.hid (putL_over hov)
        have E2 := Lib.hid (putE_over h0 hW hov)
        clear ho hq HQ hlen
        go_wp2
        go_ret2
        exact ⟨_, by rw [E2.out] <;> rfl, by rw [E1.out]; exact World.ownsRow_nil _ _ _ _, hbl⟩
      · have E1 := Lib.hid (putL_ok h0 hW hov)
        have E2 := Lib.hid (putE_ok h0 hW hov)
        have HO2 := Lib.hid ho
        clear ho hq HQ hlen
        go_wp2
        go_ret2
        exact ⟨_, by rw [E2.out] <;> rfl, by rw [E1.out]; exact HO2.out, hbl⟩

theorem refPut_any (n wd : Int) (w : World) (h9 : n ≤ 9223372036854775807) : Calls Try.prog 26 #[.int .i64 n, .int .i64 wd] w (PutRet n wd w) := by
  by_cases h : n < 0 ∨ wd < 0 ∨ 18 < wd
  · have E1 := Lib.hid (putL_arg h)
    have E2 := Lib.hid (putE_arg h)
    by_cases h1 : n < 0
    · go_enter Try.func26, Try.ntmps26
      go_wp2
      go_ret2
      exact ⟨_, by rw [E2.out] <;> rfl, by rw [E1.out]; exact World.ownsRow_nil _ _ _ _, bR _⟩
    · by_cases h2 : wd < 0
      · go_enter Try.func26, Try.ntmps26
        go_wp2
        go_ret2
        exact ⟨_, by rw [E2.out] <;> rfl, by rw [E1.out]; exact World.ownsRow_nil _ _ _ _, bR _⟩
      · have h3 : 18 < wd := by omega
        go_enter Try.func26, Try.ntmps26
        go_wp2
        go_ret2
        exact ⟨_, by rw [E2.out] <;> rfl, by rw [E1.out]; exact World.ownsRow_nil _ _ _ _, bR _⟩
  · obtain ⟨W, rfl⟩ := Int.eq_ofNat_of_zero_le (show 0 ≤ wd by omega)
    exact refPut_nat n W w (by omega) h9 (by omega)
end Go.Proofs.Ythejnlelegcgfaa
