/- A number as digits: what bcd.Put and its reference compute, for every number and width. No condition. -/
import Derived.Test.YtpmfmkkifkpdcaaBcdGet
namespace Go.Proofs.Ytpmfmkkifkpdcaa
open Go.RowKit
set_option linter.unusedVariables false
set_option maxRecDepth 100000
set_option linter.unusedSimpArgs false

theorem infoU8 : (Try.prog.info? 5).map (fun i => (i.zero, i.size, i.bytes)) = some (some (.int .u8 0), 1, 1) := by kernel_rfl
theorem infoI64 : (Try.prog.info? 3).map (fun i => (i.zero, i.size, i.bytes)) = some (some (.int .i64 0), 1, 8) := by kernel_rfl

/-- The last w digits of n. -/
def dg : Nat → Int → List Int
  | 0, _ => []
  | w + 1, n => n / 10 ^ w % 10 :: dg w n
theorem dg_succ (w : Nat) (n : Int) : dg (w + 1) n = n / 10 ^ w % 10 :: dg w n := rfl
theorem dg_len (w : Nat) (n : Int) : (dg w n).length = w := by
  induction w with
  | zero => rfl
  | succ w ih => simp [dg, ih]
theorem dg_byte (w : Nat) (n : Int) : ∀ x ∈ dg w n, 0 ≤ x ∧ x < 10 := by
  induction w with
  | zero => simp [dg]
  | succ w ih =>
    intro x hx
    rcases List.mem_cons.1 hx with rfl | hx
    · omega
    · exact ih x hx
theorem div_step (n : Int) (k : Nat) : n / 10 ^ k / 10 = n / 10 ^ (k + 1) := by
  rw [Int.pow_succ, Int.ediv_ediv_of_nonneg (by exact Int.pow_nonneg (by omega))]
def putL (n wd : Int) : List Int := if n < 0 ∨ wd < 0 ∨ 18 < wd ∨ 0 < n / 10 ^ wd.toNat then [] else dg wd.toNat n
def putE (n wd : Int) : Int := if n < 0 ∨ wd < 0 ∨ 18 < wd then 1 else if 0 < n / 10 ^ wd.toNat then 23 else 0
theorem putL_arg {n wd : Int} (h : n < 0 ∨ wd < 0 ∨ 18 < wd) : putL n wd = [] := by unfold putL; rw [if_pos (by omega)]
theorem putE_arg {n wd : Int} (h : n < 0 ∨ wd < 0 ∨ 18 < wd) : putE n wd = 1 := by unfold putE; rw [if_pos h]
theorem putL_over {n : Int} {k : Nat} (h : 0 < n / 10 ^ k) : putL n k = [] := by unfold putL; rw [if_pos (by simp [h])]
theorem putE_over {n : Int} {k : Nat} (h0 : 0 ≤ n) (h1 : k ≤ 18) (h : 0 < n / 10 ^ k) : putE n k = 23 := by unfold putE; rw [if_neg (by omega), if_pos (by simpa using h)]
theorem putL_ok {n : Int} {k : Nat} (h0 : 0 ≤ n) (h1 : k ≤ 18) (h : ¬ 0 < n / 10 ^ k) : putL n k = dg k n := by
  unfold putL; rw [if_neg (by simp only [Int.toNat_natCast]; omega)]; simp
theorem putE_ok {n : Int} {k : Nat} (h0 : 0 ≤ n) (h1 : k ≤ 18) (h : ¬ 0 < n / 10 ^ k) : putE n k = 0 := by unfold putE; rw [if_neg (by omega), if_neg (by simpa using h)]

theorem repl_set (a : Nat) (d : Int) (l : List Int) : ((List.replicate (a + 1) (0 : Int) ++ l).map (Value.int .u8)).set a (.int .u8 d) = (List.replicate a (0 : Int) ++ d :: l).map (Value.int .u8) := by
  rw [← List.map_set, List.replicate_succ']
  simp [List.set_append]

/-- What a digits' row is, behind Put. -/
def PutRet (n wd : Int) (w : World) (e : Ending) (w' : World) : Prop :=
  ∃ v, e = .returned (.tuple #[v, .int .i64 (putE n wd)]) ∧ w'.ownsRow w.heap.size 5 1 v (putL n wd).length ((putL n wd).map (.int .u8)) ∧ Below w.heap.size w w'

set_option maxHeartbeats 2000000 in
theorem bcdPut_nat (n : Int) (W : Nat) (w : World) (h0 : 0 ≤ n) (h9 : n ≤ 9223372036854775807) (hW : W ≤ 18) :
    Calls Try.prog 194 #[.int .i64 n, .int .i64 W] w (PutRet n W w) := by
  obtain ⟨i0, hi, hz0, hz1, hz2⟩ := info_parts infoU8
  go_enter Try.func194, Try.ntmps194
  go_wp2_with (first
    | (at_make; refine wpList_make_full _ rfl _ _ 55 rfl w.heap.size 5 i0 (.int .u8 0) 1 Try.underlying55 hi hz0 hz1 .i64 .i64 _ _ W rfl rfl rfl rfl (by rw [hz2]; omega) (by unfold maxLen; omega) (Nat.le_refl _) ?_; intro w1 hown hg))
  have hown2 : w1.ownsRow w.heap.size 5 1 (.slice (some ⟨w.heap.size, 0, none⟩) W W) W ((List.replicate (W - 0) (0 : Int) ++ dg 0 n).map (.int .u8)) := by
    have e : (madeCells (Value.int .u8 0).cells (W * 1)).toList = (List.replicate (W - 0) (0 : Int) ++ dg 0 n).map (.int .u8) := by
      show (madeCells #[Value.int .u8 0] (W * 1)).toList = _
      rw [toList_madeCells_one]; simp [dg]
    rw [← e]; exact hown
  clear hown
  go_loopw [0, 22] (fun nn i wr => ∃ k : Nat, k ≤ W ∧ i = .int .i64 k ∧ nn = .int .i64 (n / 10 ^ k) ∧ wr.ownsRow w.heap.size 5 1 (.slice (some ⟨w.heap.size, 0, none⟩) W W) W ((List.replicate (W - k) (0 : Int) ++ dg k n).map (.int .u8)) ∧ Below w.heap.size w wr) (fun _ i _ => W - (intOf i).toNat)
  case atStart => exact ⟨0, Nat.zero_le _, rfl, by simp, hown2, bG (bR _) hg (fun k h => by cases h)⟩
  case round =>
    obtain ⟨k, hk, rfl, rfl, ho, hbl⟩ := hrel
    have hq := div_step n k
    have HQ := Lib.hid hq
    have hq0 : 0 ≤ n / 10 ^ k := Int.ediv_nonneg h0 (Int.pow_nonneg (by omega))
    have hq9 : n / 10 ^ k ≤ 9223372036854775807 := Int.le_trans (Int.ediv_le_self _ h0) h9
    by_cases hlt : k < W
    · obtain ⟨j, rfl⟩ : ∃ j, W = k + 1 + j := ⟨W - k - 1, by omega⟩
      have HD := Lib.hid (dg_succ k n)
      have HS := Lib.hid (repl_set j (n / 10 ^ k % 10) (dg k n))
      have ho2 := ho
      rw [show k + 1 + j - k = j + 1 by omega] at ho2
      have hcell := ho2.cellAt j (by omega)
      rw [List.getElem?_eq_getElem (by simp; omega)] at hcell
      have hfr := ho2.frozenAt j
      have HO := Lib.hid (ho2.stored j (.int .u8 (n / 10 ^ k % 10)))
      clear ho ho2 hown2 hg hq
      generalize n / 10 ^ k = q at *
      have hx : ((k + 1 + j : Nat) : Int) - 1 - (k : Int) = (j : Int) := by omega
      go_wp2
      go_roundw
      case rel => exact ⟨k + 1, by omega, by go_num, by rw [HQ.out], by have h := HO.out.1; rw [HS.out] at h; rw [HD.out, show k + 1 + j - (k + 1) = j by omega]; exact h, bS hbl (Nat.le_refl _)⟩
      case measure => simp [intOf]; omega
    · obtain rfl : k = W := by omega
      have ho2 : wr.ownsRow w.heap.size 5 1 (.slice (some ⟨w.heap.size, 0, none⟩) k k) (dg k n).length ((dg k n).map (.int .u8)) := by
        rw [Nat.sub_self] at ho; simp only [List.replicate_zero, List.nil_append] at ho; rw [dg_len]; exact ho
      by_cases hov : 0 < n / 10 ^ k
      · have E1 := Lib.hid (putL_over hov)
        have E2 := Lib.hid (putE_over h0 hW hov)
        have HO2 := Lib.hid ho2
        clear ho hown2 hq HQ hg ho2
        go_wp2
        go_ret2
        exact ⟨_, by rw [E2.out] <;> rfl, by rw [E1.out]; exact World.ownsRow_nil _ _ _ _, hbl⟩
      · have E1 := Lib.hid (putL_ok h0 hW hov)
        have E2 := Lib.hid (putE_ok h0 hW hov)
        have HO2 := Lib.hid ho2
        clear ho hown2 hq HQ hg ho2
        go_wp2
        go_ret2
        exact ⟨_, by rw [E2.out] <;> rfl, by rw [E1.out]; exact HO2.out, hbl⟩

theorem bcdPut_any (n wd : Int) (w : World) (h9 : n ≤ 9223372036854775807) : Calls Try.prog 194 #[.int .i64 n, .int .i64 wd] w (PutRet n wd w) := by
  by_cases h : n < 0 ∨ wd < 0 ∨ 18 < wd
  · have E1 := Lib.hid (putL_arg h)
    have E2 := Lib.hid (putE_arg h)
    by_cases h1 : n < 0
    · go_enter Try.func194, Try.ntmps194
      go_wp2
      go_ret2
      exact ⟨_, by rw [E2.out] <;> rfl, by rw [E1.out]; exact World.ownsRow_nil _ _ _ _, bR _⟩
    · by_cases h2 : wd < 0
      · go_enter Try.func194, Try.ntmps194
        go_wp2
        go_ret2
        exact ⟨_, by rw [E2.out] <;> rfl, by rw [E1.out]; exact World.ownsRow_nil _ _ _ _, bR _⟩
      · have h3 : 18 < wd := by omega
        go_enter Try.func194, Try.ntmps194
        go_wp2
        go_ret2
        exact ⟨_, by rw [E2.out] <;> rfl, by rw [E1.out]; exact World.ownsRow_nil _ _ _ _, bR _⟩
  · obtain ⟨W, rfl⟩ := Int.eq_ofNat_of_zero_le (show 0 ≤ wd by omega)
    exact bcdPut_nat n W w (by omega) h9 (by omega)
end Go.Proofs.Ytpmfmkkifkpdcaa
